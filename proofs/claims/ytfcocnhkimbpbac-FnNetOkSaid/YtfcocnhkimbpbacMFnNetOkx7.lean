/- Functions that the law FnNetOk reaches, each with the proof that the machine's call comes to just its answer; no conditions but those that each theorem states. Printed by a program of this session over the kit's print. -/
import Derived.Test.YtfcocnhkimbpbacMFnNetOkx0
import Derived.Test.YtfcocnhkimbpbacMFnNetOkx1
import Derived.Test.YtfcocnhkimbpbacMFnNetOkx2
import Derived.Test.YtfcocnhkimbpbacMFnNetOkx4
import Derived.Test.YtfcocnhkimbpbacMFnNetOkx6
namespace Go.Proofs.Ytfcocnhkimbpbac.MFnNetOk
open Go.RowKit Go.Proofs.YtfcocnhkimbpbacV.PrintWords Go.Proofs.YtfcocnhkimbpbacV.PrintLast Go.Proofs.YtfcocnhkimbpbacV.PrintMore
attribute [local go_sem] max2_int min2_int max_two min_two max_three min_three max_four min_four   -- for this text's walks alone
set_option linter.unusedVariables false
set_option linter.unusedSimpArgs false

/-! ### spec_DrawNetOk: function 21 -/
def spec_DrawNetOk.f (k : Nat) (l0 : List Int) : Option ((List (S79))) := (spec_l20Open.f l0).bind fun bt253 => ((spec_l20Net.f k bt253.1 bt253.2 2).bind fun bt256 => (some bt256.1))
theorem spec_DrawNetOk.mono : ∀ a0 k, LeO (spec_DrawNetOk.f k a0) (spec_DrawNetOk.f (k + 1) a0) := by
 intro a0 k
 unfold spec_DrawNetOk.f
 repeat' first
   | (with_reducible exact spec_l20Net.mono _ _ _ _)
   | (with_reducible exact LeO.refl _)
   | (with_reducible exact LeO.none _)
   | (with_reducible refine LeO.ite ?_ ?_)
   | (with_reducible refine LeO.bind ?_ (fun _ => ?_))
   | exact spec_l20Net.mono _ _ _ _
   | exact LeO.none _
   | refine LeO.ite ?_ ?_
   | refine LeO.bind ?_ (fun _ => ?_)
set_option maxHeartbeats 8000000 in
set_option maxRecDepth 100000 in
theorem spec_DrawNetOk.calls (k : Nat) (A0 : Option Addr) (c0 : Nat) (l0 : List Int) (r : List (S79)) (w : World) (hr0 : Kd.C (Kd.int .u8) w A0 l0.length l0) (hc0 : l0.length ≤ c0) (h : spec_DrawNetOk.f k l0 = some r) :
  Calls Try.prog 21 #[.slice A0 l0.length c0] w fun e w' => ∃ v0_ : Value, e = .returned (v0_) ∧ Kd.N k79 79 w' w.heap.size (fun k_ => (w.heap.size ≤ k_)) v0_ r ∧ Below w.heap.size w w' := by
 have HR0 := mk_ hr0
 have HC0 := mk_ hc0
 clear hr0 hc0
 have HB := mk_ (Below.refl w.heap.size w)
 have H : ((spec_l20Open.f l0).bind fun bt253 => ((spec_l20Net.f k bt253.1 bt253.2 2).bind fun bt256 => (some bt256.1))) = some r := h
 clear h
 replace H := Option.bind_eq_some_iff.mp H
 obtain ⟨⟨t253, t254⟩, A20, H⟩ := H
 replace H : ((spec_l20Net.f k t253 t254 2).bind fun bt256 => (some bt256.1)) = some r := H
 have A2 := mk_ A20
 clear A20
 replace H := Option.bind_eq_some_iff.mp H
 obtain ⟨⟨t256, t259⟩, A30, H⟩ := H
 replace H : (some t256) = some r := H
 have A3 := mk_ A30
 clear A30
 obtain rfl := Option.some.inj H
 go_enter Try.func21, Try.ntmps21
 go_wp2_with (first | ((with_reducible refine gate_callee (f := 38) rfl ?_); refine goesL_ (some 4) rfl rfl Try.func38 (by kernel_rfl) rfl #[.slice A0 l0.length c0] rfl (by (try simp only [lm_, lo_, ln_]); first | done | rfl | (simp only [List.length_drop, List.length_take]; rfl)) ?_; (with_reducible refine (spec_l20Open.calls _ _ l0 t253 t254 w _ ?side1 ?side2 ?side3 A2.out).mono ?_); (case side1 => repeat (first | (with_reducible first | exact HB.out | apply na_ | apply nn_ | apply nw_) | exact HB.out)); (case side2 => exact HR0.out); (case side3 => exact HC0.out); rintro e w4 ⟨g255, rfl, hi, hb, hb2⟩; refine ⟨_, rfl, ?_⟩; have n0_ := mk_ (hb); have n1_ := mk_ (hi); clear HB; have HB := n0_; have HI255 := n1_; clear n0_ n1_; (try clear hb); (try clear hb2); (try clear hk); (try clear hi)) | ((with_reducible refine gate_callee (f := 46) rfl ?_); refine goesL_ (some 5) rfl rfl Try.func46 (by kernel_rfl) rfl #[.pointer (some ⟨g255, 0, none⟩), .int .i64 2] rfl (by (try simp only [lm_, lo_, ln_]); first | done | rfl | (simp only [List.length_drop, List.length_take]; rfl)) ?_; (with_reducible refine (spec_l20Net.calls k g255 t253 t254 2 t256 t259 w _ ?side1 ?side2 A3.out).mono ?_); (case side1 => repeat (first | (with_reducible first | exact HI255.out | apply IsS109.alloc | apply IsS109.drewN | apply IsS109.drew | apply IsS109.set_1) | exact HI255.out)); (case side2 => repeat (first | (with_reducible first | exact HB.out | apply na_ | apply nn_ | apply nw_ | refine bs_ ?_ (IsS109.ge HI255.out)) | exact HB.out)); rintro e w5 ⟨v257, rfl, ho0, hi, hb, hk⟩; refine ⟨_, rfl, ?_⟩; have n0_ := mk_ (Kd.N_lower (Kd.N_mono (ok' := fun k_ => (w.heap.size ≤ k_) ∧ k_ ≠ g255) ho0 (fun k_ hk_ => ⟨(Nat.le_trans (below_size (by repeat (first | (with_reducible first | exact HB.out | apply na_ | apply nn_ | apply nw_ | refine bs_ ?_ (IsS109.ge HI255.out)) | exact HB.out))) hk_), (IsS109.fresh (by repeat (first | (with_reducible first | exact HI255.out | apply IsS109.alloc | apply IsS109.drewN | apply IsS109.drew | apply IsS109.set_1) | exact HI255.out)) k_ hk_)⟩)) (below_size (by repeat (first | (with_reducible first | exact HB.out | apply na_ | apply nn_ | apply nw_ | refine bs_ ?_ (IsS109.ge HI255.out)) | exact HB.out)))); have n1_ := mk_ (hb); have n2_ := mk_ (hi); clear HB; clear HI255; have HO258 := n0_; have HB := n1_; have HI255 := n2_; clear n0_ n1_ n2_; (try clear hb); (try clear hb2); (try clear hk); (try clear hi); (try clear ho0)))
 go_ret
 exact ⟨_, by first | rfl | (simp [errW_none, errW_some] <;> rfl) | (simp [*, errW_none, errW_some] <;> rfl), by (with_reducible repeat (first | apply Kd.N_alloc | apply Kd.N_drewN | apply Kd.N_drew)); exact Kd.N_mono HO258.out (fun _ hk => hk.1), by repeat (first | (with_reducible first | exact HB.out | apply na_ | apply nn_ | apply nw_ | refine bs_ ?_ (IsS109.ge HI255.out)) | exact HB.out)⟩

/-! ### laws_FnNetOk: function 6 -/
mutual
def laws_FnNetOk.l0 : Nat → List (S79) → Bool → Int → Option (Bool)
 | 0, _, _, _ => none
 | k + 1, x3, x4, x5 => if x5 < (x3.length : Int) then (laws_FnNetOk.j1 k x3 x4 x5 x4) else (laws_FnNetOk.j1 k x3 x4 x5 false)
def laws_FnNetOk.j1 : Nat → List (S79) → Bool → Int → Bool → Option (Bool)
 | 0, _, _, _, _ => none
 | k + 1, x3, x4, x5, x23 => if x23 = true then ((some (([] : List (S79)) : List (S79))).bind fun y265 => (if 0 ≤ x5 then (if x5 ≤ (x3.length : Int) then ((some (x3.take (x5 : Int).toNat : List (S79))).bind fun y268 => (if y265.length + y268.length < 4398046511104 then ((impl_NetOk.f k (y265 ++ y268)).bind fun t276 => (if t276 = true then (laws_FnNetOk.l0 k x3 x4 (wrap64 (x5 + 1))) else (some false))) else (none))) else (none)) else (none))) else ((impl_NetOk.f k (([] : List (S79)))).bind fun t280 => (if t280 = true then ((laws_alive.f k).bind fun t281 => (some t281)) else (some false)))
end
def laws_FnNetOk.f (k : Nat) (l0 : List Int) : Option (Bool) := if (l0.length : Int) > 1048576 then (some true) else ((spec_DrawNetOk.f k l0).bind fun t260 => ((impl_NetOk.f k t260).bind fun t263 => ((spec_NetOk.f k t260).bind fun t264 => (if (t263 != t264) = true then (some false) else (laws_FnNetOk.l0 k t260 t263 0)))))
theorem laws_FnNetOk.mono_l : ∀ k, (∀ y0 y1 y2, LeO (laws_FnNetOk.l0 k y0 y1 y2) (laws_FnNetOk.l0 (k + 1) y0 y1 y2)) ∧ (∀ y0 y1 y2 y3, LeO (laws_FnNetOk.j1 k y0 y1 y2 y3) (laws_FnNetOk.j1 (k + 1) y0 y1 y2 y3))
 | 0 => ⟨fun _ _ _ r h => by simp [laws_FnNetOk.l0] at h, fun _ _ _ _ r h => by simp [laws_FnNetOk.j1] at h⟩
 | k + 1 => by
  obtain ⟨ih0, ih1⟩ := laws_FnNetOk.mono_l k
  refine ⟨?_, ?_⟩
  ·intro y0 y1 y2
   unfold laws_FnNetOk.l0
   repeat' first
   | (with_reducible exact ih0 _ _ _)
   | (with_reducible exact ih1 _ _ _ _)
   | (with_reducible exact impl_NetOk.mono _ _)
   | (with_reducible exact laws_alive.mono _)
   | (with_reducible exact spec_DrawNetOk.mono _ _)
   | (with_reducible exact spec_NetOk.mono _ _)
   | (with_reducible exact LeO.refl _)
   | (with_reducible exact LeO.none _)
   | (with_reducible refine LeO.ite ?_ ?_)
   | (with_reducible refine LeO.bind ?_ (fun _ => ?_))
   | exact ih0 _ _ _
   | exact ih1 _ _ _ _
   | exact impl_NetOk.mono _ _
   | exact laws_alive.mono _
   | exact spec_DrawNetOk.mono _ _
   | exact spec_NetOk.mono _ _
   | exact LeO.none _
   | refine LeO.ite ?_ ?_
   | refine LeO.bind ?_ (fun _ => ?_)
  ·intro y0 y1 y2 y3
   unfold laws_FnNetOk.j1
   repeat' first
   | (with_reducible exact ih0 _ _ _)
   | (with_reducible exact ih1 _ _ _ _)
   | (with_reducible exact impl_NetOk.mono _ _)
   | (with_reducible exact laws_alive.mono _)
   | (with_reducible exact spec_DrawNetOk.mono _ _)
   | (with_reducible exact spec_NetOk.mono _ _)
   | (with_reducible exact LeO.refl _)
   | (with_reducible exact LeO.none _)
   | (with_reducible refine LeO.ite ?_ ?_)
   | (with_reducible refine LeO.bind ?_ (fun _ => ?_))
   | exact ih0 _ _ _
   | exact ih1 _ _ _ _
   | exact impl_NetOk.mono _ _
   | exact laws_alive.mono _
   | exact spec_DrawNetOk.mono _ _
   | exact spec_NetOk.mono _ _
   | exact LeO.none _
   | refine LeO.ite ?_ ?_
   | refine LeO.bind ?_ (fun _ => ?_)
theorem laws_FnNetOk.mono : ∀ a0 k, LeO (laws_FnNetOk.f k a0) (laws_FnNetOk.f (k + 1) a0) := by
 intro a0 k
 obtain ⟨ih0, ih1⟩ := laws_FnNetOk.mono_l k
 unfold laws_FnNetOk.f
 repeat' first
   | (with_reducible exact ih0 _ _ _)
   | (with_reducible exact ih1 _ _ _ _)
   | (with_reducible exact impl_NetOk.mono _ _)
   | (with_reducible exact laws_alive.mono _)
   | (with_reducible exact spec_DrawNetOk.mono _ _)
   | (with_reducible exact spec_NetOk.mono _ _)
   | (with_reducible exact LeO.refl _)
   | (with_reducible exact LeO.none _)
   | (with_reducible refine LeO.ite ?_ ?_)
   | (with_reducible refine LeO.bind ?_ (fun _ => ?_))
   | exact ih0 _ _ _
   | exact ih1 _ _ _ _
   | exact impl_NetOk.mono _ _
   | exact laws_alive.mono _
   | exact spec_DrawNetOk.mono _ _
   | exact spec_NetOk.mono _ _
   | exact LeO.none _
   | refine LeO.ite ?_ ?_
   | refine LeO.bind ?_ (fun _ => ?_)
set_option maxHeartbeats 8000000 in
set_option maxRecDepth 100000 in
theorem laws_FnNetOk.calls (k : Nat) (A0 : Option Addr) (c0 : Nat) (l0 : List Int) (r : Bool) (w : World) (hr0 : Kd.C (Kd.int .u8) w A0 l0.length l0) (hc0 : l0.length ≤ c0) (h : laws_FnNetOk.f k l0 = some r) :
  Calls Try.prog 6 #[.slice A0 l0.length c0] w fun e w' => e = .returned (.bool r) ∧ Below w.heap.size w w' := by
 have HR0 := mk_ hr0
 have HC0 := mk_ hc0
 clear hr0 hc0
 have HB := mk_ (Below.refl w.heap.size w)
 have H : (if (l0.length : Int) > 1048576 then (some true) else ((spec_DrawNetOk.f k l0).bind fun t260 => ((impl_NetOk.f k t260).bind fun t263 => ((spec_NetOk.f k t260).bind fun t264 => (if (t263 != t264) = true then (some false) else (laws_FnNetOk.l0 k t260 t263 0)))))) = some r := h
 clear h
 by_cases c2 : (l0.length : Int) > 1048576
 ·rw [if_pos c2] at H
  have c2b0 : decide (1048576 < (l0.length : Int)) = true := decide_eq_true c2
  have c2b1 : decide (1048576 < l0.length) = true := decide_eq_true (by omega)
  clear c2
  obtain rfl := Option.some.inj H
  go_enter Try.func6, Try.ntmps6
  go_wp2
  go_ret
  exact ⟨by first | rfl | (simp [errW_none, errW_some] <;> rfl) | (simp [*, errW_none, errW_some] <;> rfl), by repeat (first | (with_reducible first | exact HB.out | apply na_ | apply nn_ | apply nw_) | exact HB.out)⟩
 rw [if_neg c2] at H
 have c2b0 : decide (1048576 < (l0.length : Int)) = false := decide_eq_false c2
 have c2b1 : decide (1048576 < l0.length) = false := decide_eq_false (by omega)
 clear c2
 replace H := Option.bind_eq_some_iff.mp H
 obtain ⟨t260, A30, H⟩ := H
 replace H : ((impl_NetOk.f k t260).bind fun t263 => ((spec_NetOk.f k t260).bind fun t264 => (if (t263 != t264) = true then (some false) else (laws_FnNetOk.l0 k t260 t263 0)))) = some r := H
 have A3 := mk_ A30
 clear A30
 replace H := Option.bind_eq_some_iff.mp H
 obtain ⟨t263, A40, H⟩ := H
 replace H : ((spec_NetOk.f k t260).bind fun t264 => (if (t263 != t264) = true then (some false) else (laws_FnNetOk.l0 k t260 t263 0))) = some r := H
 have A4 := mk_ A40
 clear A40
 replace H := Option.bind_eq_some_iff.mp H
 obtain ⟨t264, A50, H⟩ := H
 replace H : (if (t263 != t264) = true then (some false) else (laws_FnNetOk.l0 k t260 t263 0)) = some r := H
 have A5 := mk_ A50
 clear A50
 by_cases c6 : (t263 != t264) = true
 ·rw [if_pos c6] at H
  have c6b0 : (t263 != t264) = true := c6
  (try (have c6b1 : decide (t263 = t264) = false := by simpa using c6))
  (try (have c6b2 : (t263 == t264) = false := by simpa using c6))
  (try (have c6b3 : ¬ (t263 = t264) := by simpa using c6))
  clear c6
  obtain rfl := Option.some.inj H
  go_enter Try.func6, Try.ntmps6
  go_wp2_with (first | ((with_reducible refine gate_callee (f := 21) rfl ?_); refine goesL_ (some 10) rfl rfl Try.func21 (by kernel_rfl) rfl #[.slice A0 l0.length c0] rfl (by (try simp only [lm_, lo_, ln_]); first | done | rfl | (simp only [List.length_drop, List.length_take]; rfl)) ?_; (with_reducible refine (spec_DrawNetOk.calls k _ _ l0 t260 _ ?side1 ?side2 A3.out).mono ?_); (case side1 => repeat (first | exact HR0.out | (with_reducible refine Kd.C_alloc ?_ _) | (with_reducible refine Kd.C_drewN ?_ _) | (with_reducible refine Kd.C_drew ?_))); (case side2 => exact HC0.out); rintro e w7 ⟨v261, rfl, ho0, hb⟩; refine ⟨_, rfl, ?_⟩; have n0_ := mk_ (Kd.N_lower (Kd.N_mono (ok' := fun k_ => True) ho0 (fun k_ hk_ => trivial)) (below_size (ub_ HB.out))); have n1_ := mk_ (below_step (ub_ HB.out) hb); clear HB; have HO262 := n0_; have HB := n1_; clear n0_ n1_; (try clear hb); (try clear hb2); (try clear hk); (try clear hi); (try clear ho0); obtain ⟨Ao8, co8, eo8⟩ := Kd.N_slice HO262.out; subst eo8) | ((with_reducible refine gate_callee (f := 19) rfl ?_); refine goesL_ (some 12) rfl rfl Try.func19 (by kernel_rfl) rfl #[.slice Ao8 t260.length co8] rfl (by (try simp only [lm_, lo_, ln_]); first | done | rfl | (simp only [List.length_drop, List.length_take]; rfl)) ?_; (with_reducible refine (impl_NetOk.calls k _ _ t260 t263 _ ?side1 ?side2 A4.out).mono ?_); (case side1 => repeat (first | exact (Kd.N_reads' HO262.out).2.2 | (with_reducible refine Kd.C_alloc ?_ _) | (with_reducible refine Kd.C_drewN ?_ _) | (with_reducible refine Kd.C_drew ?_))); (case side2 => exact (Kd.N_reads' HO262.out).2.1); rintro e w9 ⟨rfl, hb⟩; refine ⟨_, rfl, ?_⟩; have n0_ := mk_ (Kd.N_below (by (with_reducible repeat (first | apply Kd.N_alloc | apply Kd.N_drewN | apply Kd.N_drew)); exact HO262.out) hb); have n1_ := mk_ (below_step (ub_ HB.out) hb); clear HO262; clear HB; have HO262 := n0_; have HB := n1_; clear n0_ n1_; (try clear hb); (try clear hb2); (try clear hk); (try clear hi)) | ((with_reducible refine gate_callee (f := 17) rfl ?_); refine goesL_ (some 15) rfl rfl Try.func17 (by kernel_rfl) rfl #[.slice Ao8 t260.length co8] rfl (by (try simp only [lm_, lo_, ln_]); first | done | rfl | (simp only [List.length_drop, List.length_take]; rfl)) ?_; (with_reducible refine (spec_NetOk.calls k _ _ t260 t264 _ ?side1 ?side2 A5.out).mono ?_); (case side1 => repeat (first | exact (Kd.N_reads' HO262.out).2.2 | (with_reducible refine Kd.C_alloc ?_ _) | (with_reducible refine Kd.C_drewN ?_ _) | (with_reducible refine Kd.C_drew ?_))); (case side2 => exact (Kd.N_reads' HO262.out).2.1); rintro e w10 ⟨rfl, hb⟩; refine ⟨_, rfl, ?_⟩; have n0_ := mk_ (Kd.N_below (by (with_reducible repeat (first | apply Kd.N_alloc | apply Kd.N_drewN | apply Kd.N_drew)); exact HO262.out) hb); have n1_ := mk_ (below_step (ub_ HB.out) hb); clear HO262; clear HB; have HO262 := n0_; have HB := n1_; clear n0_ n1_; (try clear hb); (try clear hb2); (try clear hk); (try clear hi)))
  go_ret
  exact ⟨by first | rfl | (simp [errW_none, errW_some] <;> rfl) | (simp [*, errW_none, errW_some] <;> rfl), by repeat (first | (with_reducible first | exact HB.out | apply na_ | apply nn_ | apply nw_) | exact HB.out)⟩
 rw [if_neg c6] at H
 have c6b0 : (t263 != t264) = false := by simpa using c6
 (try (have c6b1 : decide (t263 = t264) = true := by simpa using c6))
 (try (have c6b2 : (t263 == t264) = true := by simpa using c6))
 clear c6
 have H' := mk_ H
 clear H
 go_enter Try.func6, Try.ntmps6
 go_wp2_with (first | ((with_reducible refine gate_callee (f := 21) rfl ?_); refine goesL_ (some 10) rfl rfl Try.func21 (by kernel_rfl) rfl #[.slice A0 l0.length c0] rfl (by (try simp only [lm_, lo_, ln_]); first | done | rfl | (simp only [List.length_drop, List.length_take]; rfl)) ?_; (with_reducible refine (spec_DrawNetOk.calls k _ _ l0 t260 _ ?side1 ?side2 A3.out).mono ?_); (case side1 => repeat (first | exact HR0.out | (with_reducible refine Kd.C_alloc ?_ _) | (with_reducible refine Kd.C_drewN ?_ _) | (with_reducible refine Kd.C_drew ?_))); (case side2 => exact HC0.out); rintro e w11 ⟨v261, rfl, ho0, hb⟩; refine ⟨_, rfl, ?_⟩; have n0_ := mk_ (Kd.N_lower (Kd.N_mono (ok' := fun k_ => True) ho0 (fun k_ hk_ => trivial)) (below_size (ub_ HB.out))); have n1_ := mk_ (below_step (ub_ HB.out) hb); clear HB; have HO262 := n0_; have HB := n1_; clear n0_ n1_; (try clear hb); (try clear hb2); (try clear hk); (try clear hi); (try clear ho0); obtain ⟨Ao12, co12, eo12⟩ := Kd.N_slice HO262.out; subst eo12) | ((with_reducible refine gate_callee (f := 19) rfl ?_); refine goesL_ (some 12) rfl rfl Try.func19 (by kernel_rfl) rfl #[.slice Ao12 t260.length co12] rfl (by (try simp only [lm_, lo_, ln_]); first | done | rfl | (simp only [List.length_drop, List.length_take]; rfl)) ?_; (with_reducible refine (impl_NetOk.calls k _ _ t260 t263 _ ?side1 ?side2 A4.out).mono ?_); (case side1 => repeat (first | exact (Kd.N_reads' HO262.out).2.2 | (with_reducible refine Kd.C_alloc ?_ _) | (with_reducible refine Kd.C_drewN ?_ _) | (with_reducible refine Kd.C_drew ?_))); (case side2 => exact (Kd.N_reads' HO262.out).2.1); rintro e w13 ⟨rfl, hb⟩; refine ⟨_, rfl, ?_⟩; have n0_ := mk_ (Kd.N_below (by (with_reducible repeat (first | apply Kd.N_alloc | apply Kd.N_drewN | apply Kd.N_drew)); exact HO262.out) hb); have n1_ := mk_ (below_step (ub_ HB.out) hb); clear HO262; clear HB; have HO262 := n0_; have HB := n1_; clear n0_ n1_; (try clear hb); (try clear hb2); (try clear hk); (try clear hi)) | ((with_reducible refine gate_callee (f := 17) rfl ?_); refine goesL_ (some 15) rfl rfl Try.func17 (by kernel_rfl) rfl #[.slice Ao12 t260.length co12] rfl (by (try simp only [lm_, lo_, ln_]); first | done | rfl | (simp only [List.length_drop, List.length_take]; rfl)) ?_; (with_reducible refine (spec_NetOk.calls k _ _ t260 t264 _ ?side1 ?side2 A5.out).mono ?_); (case side1 => repeat (first | exact (Kd.N_reads' HO262.out).2.2 | (with_reducible refine Kd.C_alloc ?_ _) | (with_reducible refine Kd.C_drewN ?_ _) | (with_reducible refine Kd.C_drew ?_))); (case side2 => exact (Kd.N_reads' HO262.out).2.1); rintro e w14 ⟨rfl, hb⟩; refine ⟨_, rfl, ?_⟩; have n0_ := mk_ (Kd.N_below (by (with_reducible repeat (first | apply Kd.N_alloc | apply Kd.N_drewN | apply Kd.N_drew)); exact HO262.out) hb); have n1_ := mk_ (below_step (ub_ HB.out) hb); clear HO262; clear HB; have HO262 := n0_; have HB := n1_; clear n0_ n1_; (try clear hb); (try clear hb2); (try clear hk); (try clear hi)))
 go_loopg [5] k (fun kq v5 w' => ∃ (x5_1 : Int), v5 = .int .i64 x5_1 ∧ Aside0 (laws_FnNetOk.l0 kq t260 t263 x5_1 = some r) ∧ Aside0 (kq ≤ k) ∧ Aside0 (Kd.N k79 79 w' w.heap.size (fun _ => True) (.slice Ao12 t260.length co12) t260) ∧ Aside0 (Below w.heap.size w w'))
 case atStart => exact ⟨(0), (by first | rfl | (simp; done) | (simp [*]; done)), H', ⟨Nat.le_refl _⟩, ⟨by (with_reducible repeat (first | apply Kd.N_alloc | apply Kd.N_drewN | apply Kd.N_drew)); exact HO262.out⟩, ⟨ub_ HB.out⟩⟩
 case round =>
  clear H'
  try clear c1
  try clear c2
  try clear c2b0
  try clear c2b1
  try clear p2
  try clear c6
  try clear c6b0
  try clear c6b1
  try clear c6b2
  obtain ⟨x5_1, rfl, HA, HK1, HO_3, HB⟩ := hrel
  cases gk with
  | zero => exact absurd HA.out (by simp [laws_FnNetOk.l0])
  | succ k1 =>
   have H := HA.out
   clear HA
   simp only [laws_FnNetOk.l0] at H
   have HC15 := mk_ H
   clear H
   go_upto_region 8 with (fail)
   go_cut [23] (fun v23 wc => ∃ (kq : Nat) (x23_14 : Bool), v23 = .bool x23_14 ∧ Aside0 (laws_FnNetOk.j1 kq t260 t263 x5_1 x23_14 = some r) ∧ Aside0 (kq ≤ k1) ∧ Aside0 (Kd.N k79 79 wc w.heap.size (fun _ => True) (.slice Ao12 t260.length co12) t260) ∧ Aside0 (Below w.heap.size w wc))
   case first =>
    have H := HC15.out
    clear HC15
    by_cases c16 : x5_1 < (t260.length : Int)
    ·rw [if_pos c16] at H
     have c16b0 : decide (x5_1 < (t260.length : Int)) = true := decide_eq_true c16
     clear c16
     (first | rw [c16b0] | (simp only [i64_w, i32_w]; rw [c16b0]) | skip)
     have H' := mk_ H
     clear H
     go_wp2
     go_meet
     case rel => exact ⟨_, (t263), (by first | rfl | (simp; done) | (simp [*]; done)), H', ⟨by have := HK1.out; first | omega | exact Nat.le_refl _⟩, ⟨by (with_reducible repeat (first | apply Kd.N_alloc | apply Kd.N_drewN | apply Kd.N_drew)); exact HO_3.out⟩, ⟨ub_ HB.out⟩⟩
    rw [if_neg c16] at H
    have c16b0 : decide (x5_1 < (t260.length : Int)) = false := decide_eq_false c16
    clear c16
    (first | rw [c16b0] | (simp only [i64_w, i32_w]; rw [c16b0]) | skip)
    have H' := mk_ H
    clear H
    go_wp2
    go_meet
    case rel => exact ⟨_, (false), (by first | rfl | (simp; done) | (simp [*]; done)), H', ⟨by have := HK1.out; first | omega | exact Nat.le_refl _⟩, ⟨by (with_reducible repeat (first | apply Kd.N_alloc | apply Kd.N_drewN | apply Kd.N_drew)); exact HO_3.out⟩, ⟨ub_ HB.out⟩⟩
   case rest =>
    clear HC15
    try clear c1
    try clear c2
    try clear c2b0
    try clear c2b1
    try clear p2
    try clear c6
    try clear c6b0
    try clear c6b1
    try clear c6b2
    try clear c16
    try clear c16b0
    try clear p2
    obtain ⟨kq, x23_14, rfl, HA, HJ14, HO_3, HB⟩ := hcut
    cases kq with
    | zero => exact absurd HA.out (by simp [laws_FnNetOk.j1])
    | succ kj14 =>
     have H := HA.out
     clear HA
     simp only [laws_FnNetOk.j1] at H
     by_cases c17 : x23_14 = true
     rotate_left
     ·replace c17 := Bool.eq_false_iff.mpr c17
      subst c17
      have H1 : ((impl_NetOk.f kj14 (([] : List (S79)))).bind fun t280 => (if t280 = true then ((laws_alive.f kj14).bind fun t281 => (some t281)) else (some false))) = some r := by rw [if_neg (show ¬ (false = true) by decide)] at H; exact H
      clear H
      have H := H1
      clear H1
      obtain ⟨y277, hy277⟩ : ∃ y_ : List (S79), y_ = (([] : List (S79))) := ⟨_, rfl⟩
      replace H : ((impl_NetOk.f kj14 y277).bind fun t280 => (if t280 = true then ((laws_alive.f kj14).bind fun t281 => (some t281)) else (some false))) = some r := by first | (rw [hy277]; with_reducible exact H) | (have H2_ := (Option.bind_some _ _).symm.trans H; rw [hy277]; with_reducible exact H2_) | (have H2_ := (Option.bind_some _ _).symm.trans H; with_reducible exact H2_) | with_reducible exact H | (rw [hy277]; exact H) | exact H
      have Ny277 := mk_ hy277
      clear hy277
      replace H := Option.bind_eq_some_iff.mp H
      obtain ⟨t280, A350, H⟩ := H
      replace H : (if t280 = true then ((laws_alive.f kj14).bind fun t281 => (some t281)) else (some false)) = some r := H
      have A35 := mk_ A350
      clear A350
      by_cases c36 : t280 = true
      rotate_left
      ·replace c36 := Bool.eq_false_iff.mpr c36
       subst c36
       have H1 : (some false) = some r := by rw [if_neg (show ¬ (false = true) by decide)] at H; exact H
       clear H
       have H := H1
       clear H1
       obtain rfl := Option.some.inj H
       go_wp2_with (first | ((with_reducible refine gate_dst (N := 33) rfl ?_); refine Kd.N_lit k79 _ 79 ?hg (N' := 33) ?hd (xs := ([] : List (S79))) (inner := []) (ok := (fun k_ => some k_ ≠ (.slice Ao12 t260.length co12 : Value).ownBlock)) (okp := (fun k_ => some k_ ≠ (.slice Ao12 t260.length co12 : Value).ownBlock)) ?hr ?hp (fun _ hk => hk) ((show ∀ k_, wc.heap.size ≤ k_ → (fun k_ => some k_ ≠ (.slice Ao12 t260.length co12 : Value).ownBlock) k_ from fun k_ hk => Kd.fresh' (Kd.N_lt (by (with_reducible repeat (first | apply Kd.N_alloc | apply Kd.N_drewN | apply Kd.N_drew)); exact HO_3.out)) k_ hk) _ (Nat.le_refl _)) (Below.refl _ _) (Nat.le_refl _) (by simp) ?_; (case hd => rfl); (case hg => rfl); (case hr => first | (go_simp; done) | (go_simp; rfl)); (case hp => exact (Reps.none _ _)); intro v278 w43 ho44 hb hg_ hnew_; clear hg_ hnew_; (first | rw [← Ny277.out] at ho44 | (simp only [Int.reduceToNat] at ho44; rw [← Ny277.out] at ho44)); have n0_ := mk_ (Kd.N_elder' (by (with_reducible repeat (first | apply Kd.N_alloc | apply Kd.N_drewN | apply Kd.N_drew)); exact HO_3.out) (Kd.N_base ho44) hb); have n1_ := mk_ (Kd.N_lower ho44 (below_size (ub_ HB.out))); have n2_ := mk_ (below_step (ub_ HB.out) hb); clear HO_3; clear HB; have HO_3 := n0_; have HO279 := n1_; have HB := n2_; clear n0_ n1_ n2_; clear hb ho44; obtain ⟨Ao45, co45, eo45⟩ := Kd.N_slice HO279.out; subst eo45) | ((with_reducible refine gate_callee (f := 19) rfl ?_); refine goesL_ (some 34) rfl rfl Try.func19 (by kernel_rfl) rfl #[.slice Ao45 y277.length co45] rfl (by (try simp only [lm_, lo_, ln_]); first | done | rfl | (simp only [List.length_drop, List.length_take]; rfl)) ?_; (with_reducible refine (impl_NetOk.calls kj14 _ _ y277 false _ ?side1 ?side2 A35.out).mono ?_); (case side1 => repeat (first | exact (Kd.N_reads' HO279.out).2.2 | (with_reducible refine Kd.C_alloc ?_ _) | (with_reducible refine Kd.C_drewN ?_ _) | (with_reducible refine Kd.C_drew ?_))); (case side2 => exact (Kd.N_reads' HO279.out).2.1); rintro e w46 ⟨rfl, hb⟩; refine ⟨_, rfl, ?_⟩; have n0_ := mk_ (Kd.N_below (by (with_reducible repeat (first | apply Kd.N_alloc | apply Kd.N_drewN | apply Kd.N_drew)); exact HO_3.out) hb); have n1_ := mk_ (Kd.N_below (by (with_reducible repeat (first | apply Kd.N_alloc | apply Kd.N_drewN | apply Kd.N_drew)); exact HO279.out) hb); have n2_ := mk_ (below_step (ub_ HB.out) hb); clear HO_3; clear HO279; clear HB; have HO_3 := n0_; have HO279 := n1_; have HB := n2_; clear n0_ n1_ n2_; (try clear hb); (try clear hb2); (try clear hk); (try clear hi)))
       go_ret
       exact ⟨by first | rfl | (simp [errW_none, errW_some] <;> rfl) | (simp [*, errW_none, errW_some] <;> rfl), by repeat (first | (with_reducible first | exact HB.out | apply na_ | apply nn_ | apply nw_) | exact HB.out)⟩
      subst c36
      have H1 : ((laws_alive.f kj14).bind fun t281 => (some t281)) = some r := by rw [if_pos rfl] at H; exact H
      clear H
      have H := H1
      clear H1
      replace H := Option.bind_eq_some_iff.mp H
      obtain ⟨t281, A370, H⟩ := H
      replace H : (some t281) = some r := H
      have A37 := mk_ A370
      clear A370
      obtain rfl := Option.some.inj H
      go_wp2_with (first | ((with_reducible refine gate_dst (N := 33) rfl ?_); refine Kd.N_lit k79 _ 79 ?hg (N' := 33) ?hd (xs := ([] : List (S79))) (inner := []) (ok := (fun k_ => some k_ ≠ (.slice Ao12 t260.length co12 : Value).ownBlock)) (okp := (fun k_ => some k_ ≠ (.slice Ao12 t260.length co12 : Value).ownBlock)) ?hr ?hp (fun _ hk => hk) ((show ∀ k_, wc.heap.size ≤ k_ → (fun k_ => some k_ ≠ (.slice Ao12 t260.length co12 : Value).ownBlock) k_ from fun k_ hk => Kd.fresh' (Kd.N_lt (by (with_reducible repeat (first | apply Kd.N_alloc | apply Kd.N_drewN | apply Kd.N_drew)); exact HO_3.out)) k_ hk) _ (Nat.le_refl _)) (Below.refl _ _) (Nat.le_refl _) (by simp) ?_; (case hd => rfl); (case hg => rfl); (case hr => first | (go_simp; done) | (go_simp; rfl)); (case hp => exact (Reps.none _ _)); intro v278 w38 ho39 hb hg_ hnew_; clear hg_ hnew_; (first | rw [← Ny277.out] at ho39 | (simp only [Int.reduceToNat] at ho39; rw [← Ny277.out] at ho39)); have n0_ := mk_ (Kd.N_elder' (by (with_reducible repeat (first | apply Kd.N_alloc | apply Kd.N_drewN | apply Kd.N_drew)); exact HO_3.out) (Kd.N_base ho39) hb); have n1_ := mk_ (Kd.N_lower ho39 (below_size (ub_ HB.out))); have n2_ := mk_ (below_step (ub_ HB.out) hb); clear HO_3; clear HB; have HO_3 := n0_; have HO279 := n1_; have HB := n2_; clear n0_ n1_ n2_; clear hb ho39; obtain ⟨Ao40, co40, eo40⟩ := Kd.N_slice HO279.out; subst eo40) | ((with_reducible refine gate_callee (f := 19) rfl ?_); refine goesL_ (some 34) rfl rfl Try.func19 (by kernel_rfl) rfl #[.slice Ao40 y277.length co40] rfl (by (try simp only [lm_, lo_, ln_]); first | done | rfl | (simp only [List.length_drop, List.length_take]; rfl)) ?_; (with_reducible refine (impl_NetOk.calls kj14 _ _ y277 true _ ?side1 ?side2 A35.out).mono ?_); (case side1 => repeat (first | exact (Kd.N_reads' HO279.out).2.2 | (with_reducible refine Kd.C_alloc ?_ _) | (with_reducible refine Kd.C_drewN ?_ _) | (with_reducible refine Kd.C_drew ?_))); (case side2 => exact (Kd.N_reads' HO279.out).2.1); rintro e w41 ⟨rfl, hb⟩; refine ⟨_, rfl, ?_⟩; have n0_ := mk_ (Kd.N_below (by (with_reducible repeat (first | apply Kd.N_alloc | apply Kd.N_drewN | apply Kd.N_drew)); exact HO_3.out) hb); have n1_ := mk_ (Kd.N_below (by (with_reducible repeat (first | apply Kd.N_alloc | apply Kd.N_drewN | apply Kd.N_drew)); exact HO279.out) hb); have n2_ := mk_ (below_step (ub_ HB.out) hb); clear HO_3; clear HO279; clear HB; have HO_3 := n0_; have HO279 := n1_; have HB := n2_; clear n0_ n1_ n2_; (try clear hb); (try clear hb2); (try clear hk); (try clear hi)) | (go_at_call 15; (with_reducible refine (laws_alive.calls kj14  t281 _ A37.out).mono ?_); rintro e w42 ⟨rfl, hb⟩; have n0_ := mk_ (Kd.N_below (by (with_reducible repeat (first | apply Kd.N_alloc | apply Kd.N_drewN | apply Kd.N_drew)); exact HO_3.out) hb); have n1_ := mk_ (Kd.N_below (by (with_reducible repeat (first | apply Kd.N_alloc | apply Kd.N_drewN | apply Kd.N_drew)); exact HO279.out) hb); have n2_ := mk_ (below_step (ub_ HB.out) hb); clear HO_3; clear HO279; clear HB; have HO_3 := n0_; have HO279 := n1_; have HB := n2_; clear n0_ n1_ n2_; (try clear hb); (try clear hb2); (try clear hk); (try clear hi)))
      go_ret
      exact ⟨by first | rfl | (simp [errW_none, errW_some] <;> rfl) | (simp [*, errW_none, errW_some] <;> rfl), by repeat (first | (with_reducible first | exact HB.out | apply na_ | apply nn_ | apply nw_) | exact HB.out)⟩
     subst c17
     have H1 : ((some (([] : List (S79)) : List (S79))).bind fun y265 => (if 0 ≤ x5_1 then (if x5_1 ≤ (t260.length : Int) then ((some (t260.take (x5_1 : Int).toNat : List (S79))).bind fun y268 => (if y265.length + y268.length < 4398046511104 then ((impl_NetOk.f kj14 (y265 ++ y268)).bind fun t276 => (if t276 = true then (laws_FnNetOk.l0 kj14 t260 t263 (wrap64 (x5_1 + 1))) else (some false))) else (none))) else (none)) else (none))) = some r := by rw [if_pos rfl] at H; exact H
     clear H
     have H := H1
     clear H1
     obtain ⟨y265, hy265⟩ : ∃ y_ : List (S79), y_ = (([] : List (S79))) := ⟨_, rfl⟩
     replace H : (if 0 ≤ x5_1 then (if x5_1 ≤ (t260.length : Int) then ((some (t260.take (x5_1 : Int).toNat : List (S79))).bind fun y268 => (if y265.length + y268.length < 4398046511104 then ((impl_NetOk.f kj14 (y265 ++ y268)).bind fun t276 => (if t276 = true then (laws_FnNetOk.l0 kj14 t260 t263 (wrap64 (x5_1 + 1))) else (some false))) else (none))) else (none)) else (none)) = some r := by first | (rw [hy265]; with_reducible exact H) | (have H2_ := (Option.bind_some _ _).symm.trans H; rw [hy265]; with_reducible exact H2_) | (have H2_ := (Option.bind_some _ _).symm.trans H; with_reducible exact H2_) | with_reducible exact H | (rw [hy265]; exact H) | exact H
     have Ny265 := mk_ hy265
     clear hy265
     by_cases c18 : 0 ≤ x5_1
     rotate_left
     ·rw [if_neg c18] at H
      exact absurd H (by simp)
     rw [if_pos c18] at H
     have c18b0 := eq_true c18
     have c18b1 : decide (0 ≤ x5_1) = true := decide_eq_true c18
     clear c18
     by_cases c19 : x5_1 ≤ (t260.length : Int)
     rotate_left
     ·rw [if_neg c19] at H
      exact absurd H (by simp)
     rw [if_pos c19] at H
     have c19b0 := eq_true c19
     have c19b1 : decide (x5_1 ≤ (t260.length : Int)) = true := decide_eq_true c19
     clear c19
     obtain ⟨y268, hy268⟩ : ∃ y_ : List (S79), y_ = (t260.take (x5_1 : Int).toNat) := ⟨_, rfl⟩
     replace H : (if y265.length + y268.length < 4398046511104 then ((impl_NetOk.f kj14 (y265 ++ y268)).bind fun t276 => (if t276 = true then (laws_FnNetOk.l0 kj14 t260 t263 (wrap64 (x5_1 + 1))) else (some false))) else (none)) = some r := by first | (rw [hy268]; with_reducible exact H) | (have H2_ := (Option.bind_some _ _).symm.trans H; rw [hy268]; with_reducible exact H2_) | (have H2_ := (Option.bind_some _ _).symm.trans H; with_reducible exact H2_) | with_reducible exact H | (rw [hy268]; exact H) | exact H
     have Ny268 := mk_ hy268
     clear hy268
     by_cases c20 : y265.length + y268.length < 4398046511104
     rotate_left
     ·rw [if_neg c20] at H
      exact absurd H (by simp)
     rw [if_pos c20] at H
     have LMc20 := mk_ c20
     clear c20
     obtain ⟨y273, hy273⟩ : ∃ y_ : List (S79), y_ = (y265 ++ y268) := ⟨_, rfl⟩
     replace H : ((impl_NetOk.f kj14 y273).bind fun t276 => (if t276 = true then (laws_FnNetOk.l0 kj14 t260 t263 (wrap64 (x5_1 + 1))) else (some false))) = some r := by first | (rw [hy273]; with_reducible exact H) | (have H2_ := (Option.bind_some _ _).symm.trans H; rw [hy273]; with_reducible exact H2_) | (have H2_ := (Option.bind_some _ _).symm.trans H; with_reducible exact H2_) | with_reducible exact H | (rw [hy273]; exact H) | exact H
     have Ny273 := mk_ hy273
     clear hy273
     replace H := Option.bind_eq_some_iff.mp H
     obtain ⟨t276, A210, H⟩ := H
     replace H : (if t276 = true then (laws_FnNetOk.l0 kj14 t260 t263 (wrap64 (x5_1 + 1))) else (some false)) = some r := H
     have A21 := mk_ A210
     clear A210
     by_cases c22 : t276 = true
     rotate_left
     ·replace c22 := Bool.eq_false_iff.mpr c22
      subst c22
      have H1 : (some false) = some r := by rw [if_neg (show ¬ (false = true) by decide)] at H; exact H
      clear H
      have H := H1
      clear H1
      obtain rfl := Option.some.inj H
      go_wp2_with (first | ((with_reducible refine gate_dst (N := 26) rfl ?_); refine Kd.N_lit k79 _ 79 ?hg (N' := 26) ?hd (xs := ([] : List (S79))) (inner := []) (ok := (fun k_ => some k_ ≠ (.slice Ao12 t260.length co12 : Value).ownBlock)) (okp := (fun k_ => some k_ ≠ (.slice Ao12 t260.length co12 : Value).ownBlock)) ?hr ?hp (fun _ hk => hk) ((show ∀ k_, wc.heap.size ≤ k_ → (fun k_ => some k_ ≠ (.slice Ao12 t260.length co12 : Value).ownBlock) k_ from fun k_ hk => Kd.fresh' (Kd.N_lt (by (with_reducible repeat (first | apply Kd.N_alloc | apply Kd.N_drewN | apply Kd.N_drew)); exact HO_3.out)) k_ hk) _ (Nat.le_refl _)) (Below.refl _ _) (Nat.le_refl _) (by simp) ?_; (case hd => rfl); (case hg => rfl); (case hr => first | (go_simp; done) | (go_simp; rfl)); (case hp => exact (Reps.none _ _)); intro v266 w29 ho30 hb hg_ hnew_; clear hg_ hnew_; (first | rw [← Ny265.out] at ho30 | (simp only [Int.reduceToNat] at ho30; rw [← Ny265.out] at ho30)); have n0_ := mk_ (Kd.N_elder' (by (with_reducible repeat (first | apply Kd.N_alloc | apply Kd.N_drewN | apply Kd.N_drew)); exact HO_3.out) (Kd.N_base ho30) hb); have n1_ := mk_ (Kd.N_lower ho30 (below_size (ub_ HB.out))); have n2_ := mk_ (below_step (ub_ HB.out) hb); clear HO_3; clear HB; have HO_3 := n0_; have HO267 := n1_; have HB := n2_; clear n0_ n1_ n2_; clear hb ho30; have q31 : (x5_1 : Int) ≤ ((t260.length : Int) : Int) := of_decide_eq_true (by first | (with_reducible assumption) | assumption); obtain ⟨i031, hi031, _, hsz31, _⟩ := info_parts info79; have hroom31 : t260.length ≤ co12 := (Kd.N_reads' HO_3.out).2.1; have hC31 : Kd.F k79 _ _ Ao12 t260.length t260 := (Kd.V_at (base := w.heap.size) (Kd.N_V HO_3.out)).2.2; have hcut31 := cut_to (P := Try.prog) 36 79 .i64 Try.underlying36 hi031 Ao12 t260.length co12 x5_1 (of_decide_eq_true (by first | (with_reducible assumption) | assumption)) q31 hroom31; have hr31 := Kd.F_take (m := (x5_1 : Int).toNat) hC31 (by omega); have hy31 : y268.length = (x5_1 : Int).toNat := (by rw [Ny268.out, List.length_take]; omega); rw [← Ny268.out] at hr31; rw [← hy31] at hcut31; have HO272 := mk_ (show Kd.V k79 79 _ w.heap.size _ (.slice Ao12 y268.length co12) y268 from Kd.V_mk (by omega) hr31); have HC272 := mk_ (show y268.length ≤ co12 from by omega); clear hr31 hC31 hroom31 hi031 hsz31; have KY31 := mk_ hy31; clear hy31; replace q31 := eq_true q31) | ((with_reducible refine gate_builtin (b := .append) (xs := #[.tmp 26, .tmp 29]) rfl ?_); at_builtin; refine Kd.N_append_rows k79 (w0 := w) w.heap.size rfl (.tmp 26) (.tmp 29) 36 79 (.agg #[(.int .i64 0), (.slice none 0 0)]) 32 rfl Try.underlying36 info79 rfl (by decide) (by omega) v266 y265 y268 _ _ _ (fun _ => True) (fun k_ => ((fun _ => True)) k_ ∧ some k_ ≠ (v266 : Value).ownBlock) rfl rfl ?aO ?aR (fun _ hk => hk) ?aF ?aB ?aS ?aL ?_; (case aR => exact (by skip; exact Kd.V_F (Kd.V_mono (ok' := (fun k_ => ((fun _ => True)) k_ ∧ some k_ ≠ (v266 : Value).ownBlock)) (HO272.out) (fun k_ hk => ⟨trivial, hk.2⟩)))); (case aB => exact (ub_ HB.out)); (case aF => exact (fun _ _ => trivial)); (case aO => exact (by (with_reducible repeat (first | apply Kd.N_alloc | apply Kd.N_drewN | apply Kd.N_drew)); exact Kd.N_mono HO267.out (fun _ hk => trivial))); (case aS => exact (below_size (ub_ HB.out))); (case aL => have := LMc20.out; omega); intro v274 w32 ho hb hg hat; rw [← Ny273.out] at ho; have n0_ := mk_ (Kd.N_afterv (ok := (fun _ => True)) (by (with_reducible repeat (first | apply Kd.N_alloc | apply Kd.N_drewN | apply Kd.N_drew)); exact HO_3.out) hg hat); have n1_ := mk_ (Kd.V_afterv (ok := (fun _ => True)) (by (with_reducible repeat (first | apply Kd.V_alloc | apply Kd.V_drewN | apply Kd.V_drew)); exact HO272.out) hg hat); have n2_ := mk_ (hb); have n3_ := mk_ (ho); clear HO_3; clear HO272; clear HB; clear HO267; have HO_3 := n0_; have HO272 := n1_; have HB := n2_; have HO275 := n3_; clear n0_ n1_ n2_ n3_; clear ho hb hg hat; obtain ⟨Ao33, co33, eo33⟩ := Kd.N_slice HO275.out; subst eo33) | ((with_reducible refine gate_callee (f := 19) rfl ?_); refine goesL_ (some 31) rfl rfl Try.func19 (by kernel_rfl) rfl #[.slice Ao33 y273.length co33] rfl (by (try simp only [lm_, lo_, ln_]); first | done | rfl | (simp only [List.length_drop, List.length_take]; rfl)) ?_; (with_reducible refine (impl_NetOk.calls kj14 _ _ y273 false _ ?side1 ?side2 A21.out).mono ?_); (case side1 => repeat (first | exact (Kd.N_reads' HO275.out).2.2 | (with_reducible refine Kd.C_alloc ?_ _) | (with_reducible refine Kd.C_drewN ?_ _) | (with_reducible refine Kd.C_drew ?_))); (case side2 => exact (Kd.N_reads' HO275.out).2.1); rintro e w34 ⟨rfl, hb⟩; refine ⟨_, rfl, ?_⟩; have n0_ := mk_ (Kd.N_below (by (with_reducible repeat (first | apply Kd.N_alloc | apply Kd.N_drewN | apply Kd.N_drew)); exact HO_3.out) hb); have n1_ := mk_ (Kd.V_below (by (with_reducible repeat (first | apply Kd.V_alloc | apply Kd.V_drewN | apply Kd.V_drew)); exact HO272.out) hb); have n2_ := mk_ (Kd.N_below (by (with_reducible repeat (first | apply Kd.N_alloc | apply Kd.N_drewN | apply Kd.N_drew)); exact HO275.out) hb); have n3_ := mk_ (below_step (ub_ HB.out) hb); clear HO_3; clear HO272; clear HO275; clear HB; have HO_3 := n0_; have HO272 := n1_; have HO275 := n2_; have HB := n3_; clear n0_ n1_ n2_ n3_; (try clear hb); (try clear hb2); (try clear hk); (try clear hi)))
      go_ret
      exact ⟨by first | rfl | (simp [errW_none, errW_some] <;> rfl) | (simp [*, errW_none, errW_some] <;> rfl), by repeat (first | (with_reducible first | exact HB.out | apply na_ | apply nn_ | apply nw_) | exact HB.out)⟩
     subst c22
     have H1 : (laws_FnNetOk.l0 kj14 t260 t263 (wrap64 (x5_1 + 1))) = some r := by rw [if_pos rfl] at H; exact H
     clear H
     have H := H1
     clear H1
     have H' := mk_ H
     clear H
     go_wp2_with (first | ((with_reducible refine gate_dst (N := 26) rfl ?_); refine Kd.N_lit k79 _ 79 ?hg (N' := 26) ?hd (xs := ([] : List (S79))) (inner := []) (ok := (fun k_ => some k_ ≠ (.slice Ao12 t260.length co12 : Value).ownBlock)) (okp := (fun k_ => some k_ ≠ (.slice Ao12 t260.length co12 : Value).ownBlock)) ?hr ?hp (fun _ hk => hk) ((show ∀ k_, wc.heap.size ≤ k_ → (fun k_ => some k_ ≠ (.slice Ao12 t260.length co12 : Value).ownBlock) k_ from fun k_ hk => Kd.fresh' (Kd.N_lt (by (with_reducible repeat (first | apply Kd.N_alloc | apply Kd.N_drewN | apply Kd.N_drew)); exact HO_3.out)) k_ hk) _ (Nat.le_refl _)) (Below.refl _ _) (Nat.le_refl _) (by simp) ?_; (case hd => rfl); (case hg => rfl); (case hr => first | (go_simp; done) | (go_simp; rfl)); (case hp => exact (Reps.none _ _)); intro v266 w23 ho24 hb hg_ hnew_; clear hg_ hnew_; (first | rw [← Ny265.out] at ho24 | (simp only [Int.reduceToNat] at ho24; rw [← Ny265.out] at ho24)); have n0_ := mk_ (Kd.N_elder' (by (with_reducible repeat (first | apply Kd.N_alloc | apply Kd.N_drewN | apply Kd.N_drew)); exact HO_3.out) (Kd.N_base ho24) hb); have n1_ := mk_ (Kd.N_lower ho24 (below_size (ub_ HB.out))); have n2_ := mk_ (below_step (ub_ HB.out) hb); clear HO_3; clear HB; have HO_3 := n0_; have HO267 := n1_; have HB := n2_; clear n0_ n1_ n2_; clear hb ho24; have q25 : (x5_1 : Int) ≤ ((t260.length : Int) : Int) := of_decide_eq_true (by first | (with_reducible assumption) | assumption); obtain ⟨i025, hi025, _, hsz25, _⟩ := info_parts info79; have hroom25 : t260.length ≤ co12 := (Kd.N_reads' HO_3.out).2.1; have hC25 : Kd.F k79 _ _ Ao12 t260.length t260 := (Kd.V_at (base := w.heap.size) (Kd.N_V HO_3.out)).2.2; have hcut25 := cut_to (P := Try.prog) 36 79 .i64 Try.underlying36 hi025 Ao12 t260.length co12 x5_1 (of_decide_eq_true (by first | (with_reducible assumption) | assumption)) q25 hroom25; have hr25 := Kd.F_take (m := (x5_1 : Int).toNat) hC25 (by omega); have hy25 : y268.length = (x5_1 : Int).toNat := (by rw [Ny268.out, List.length_take]; omega); rw [← Ny268.out] at hr25; rw [← hy25] at hcut25; have HO272 := mk_ (show Kd.V k79 79 _ w.heap.size _ (.slice Ao12 y268.length co12) y268 from Kd.V_mk (by omega) hr25); have HC272 := mk_ (show y268.length ≤ co12 from by omega); clear hr25 hC25 hroom25 hi025 hsz25; have KY25 := mk_ hy25; clear hy25; replace q25 := eq_true q25) | ((with_reducible refine gate_builtin (b := .append) (xs := #[.tmp 26, .tmp 29]) rfl ?_); at_builtin; refine Kd.N_append_rows k79 (w0 := w) w.heap.size rfl (.tmp 26) (.tmp 29) 36 79 (.agg #[(.int .i64 0), (.slice none 0 0)]) 32 rfl Try.underlying36 info79 rfl (by decide) (by omega) v266 y265 y268 _ _ _ (fun _ => True) (fun k_ => ((fun _ => True)) k_ ∧ some k_ ≠ (v266 : Value).ownBlock) rfl rfl ?aO ?aR (fun _ hk => hk) ?aF ?aB ?aS ?aL ?_; (case aR => exact (by skip; exact Kd.V_F (Kd.V_mono (ok' := (fun k_ => ((fun _ => True)) k_ ∧ some k_ ≠ (v266 : Value).ownBlock)) (HO272.out) (fun k_ hk => ⟨trivial, hk.2⟩)))); (case aB => exact (ub_ HB.out)); (case aF => exact (fun _ _ => trivial)); (case aO => exact (by (with_reducible repeat (first | apply Kd.N_alloc | apply Kd.N_drewN | apply Kd.N_drew)); exact Kd.N_mono HO267.out (fun _ hk => trivial))); (case aS => exact (below_size (ub_ HB.out))); (case aL => have := LMc20.out; omega); intro v274 w26 ho hb hg hat; rw [← Ny273.out] at ho; have n0_ := mk_ (Kd.N_afterv (ok := (fun _ => True)) (by (with_reducible repeat (first | apply Kd.N_alloc | apply Kd.N_drewN | apply Kd.N_drew)); exact HO_3.out) hg hat); have n1_ := mk_ (Kd.V_afterv (ok := (fun _ => True)) (by (with_reducible repeat (first | apply Kd.V_alloc | apply Kd.V_drewN | apply Kd.V_drew)); exact HO272.out) hg hat); have n2_ := mk_ (hb); have n3_ := mk_ (ho); clear HO_3; clear HO272; clear HB; clear HO267; have HO_3 := n0_; have HO272 := n1_; have HB := n2_; have HO275 := n3_; clear n0_ n1_ n2_ n3_; clear ho hb hg hat; obtain ⟨Ao27, co27, eo27⟩ := Kd.N_slice HO275.out; subst eo27) | ((with_reducible refine gate_callee (f := 19) rfl ?_); refine goesL_ (some 31) rfl rfl Try.func19 (by kernel_rfl) rfl #[.slice Ao27 y273.length co27] rfl (by (try simp only [lm_, lo_, ln_]); first | done | rfl | (simp only [List.length_drop, List.length_take]; rfl)) ?_; (with_reducible refine (impl_NetOk.calls kj14 _ _ y273 true _ ?side1 ?side2 A21.out).mono ?_); (case side1 => repeat (first | exact (Kd.N_reads' HO275.out).2.2 | (with_reducible refine Kd.C_alloc ?_ _) | (with_reducible refine Kd.C_drewN ?_ _) | (with_reducible refine Kd.C_drew ?_))); (case side2 => exact (Kd.N_reads' HO275.out).2.1); rintro e w28 ⟨rfl, hb⟩; refine ⟨_, rfl, ?_⟩; have n0_ := mk_ (Kd.N_below (by (with_reducible repeat (first | apply Kd.N_alloc | apply Kd.N_drewN | apply Kd.N_drew)); exact HO_3.out) hb); have n1_ := mk_ (Kd.V_below (by (with_reducible repeat (first | apply Kd.V_alloc | apply Kd.V_drewN | apply Kd.V_drew)); exact HO272.out) hb); have n2_ := mk_ (Kd.N_below (by (with_reducible repeat (first | apply Kd.N_alloc | apply Kd.N_drewN | apply Kd.N_drew)); exact HO275.out) hb); have n3_ := mk_ (below_step (ub_ HB.out) hb); clear HO_3; clear HO272; clear HO275; clear HB; have HO_3 := n0_; have HO272 := n1_; have HO275 := n2_; have HB := n3_; clear n0_ n1_ n2_ n3_; (try clear hb); (try clear hb2); (try clear hk); (try clear hi)))
     go_roundg kj14
     case measure => have := HK1.out; have := HJ14.out; omega
     case rel => exact ⟨(wrap64 (x5_1 + 1)), (by first | rfl | (simp; done) | (simp [*]; done)), H', ⟨by have := HK1.out; have := HJ14.out; omega⟩, ⟨by (with_reducible repeat (first | apply Kd.N_alloc | apply Kd.N_drewN | apply Kd.N_drew)); exact Kd.N_mono HO_3.out (fun _ hk => trivial)⟩, ⟨ub_ HB.out⟩⟩

/-- THE ONE PURE STATEMENT of laws_FnNetOk: yours. -/
def laws_FnNetOk.Pure : Prop := ∀ (l0 : List Int), l0.length ≤ maxLen → l0.length * 1 ≤ 140737488351232 → (∀ x ∈ l0, (Lit.int .u8 x).wf = true) → ∃ k, laws_FnNetOk.f k l0 = some true
theorem laws_FnNetOk.walk (P : laws_FnNetOk.Pure) (a0 : Option Addr) (len0 cap0 : Nat) (z0 : List Int) (w : World) (w0 : (a0 = none ∧ len0 = 0 ∧ cap0 = 0 ∧ z0 = []) ∨ ∃ x, a0 = some x ∧ len0 ≤ cap0 ∧ cap0 ≤ maxLen ∧ z0.length = cap0 ∧ (∀ i, i < z0.length → w.cell? (x.add i) = some (.int .u8 (z0.getD i 0))) ∧ ∀ n ∈ z0, (Lit.int .u8 n).wf = true) (y0 : len0 * 1 ≤ 140737488351232) :
  Calls Try.prog 6 #[.slice a0 len0 cap0] w fun e w' => e = .returned (.bool true) ∧ Below w.heap.size w w' := by
 obtain ⟨l0, rfl, hr0, hm0, hw0, hc0⟩ := ReadsInt.ofRowC w0
 obtain ⟨k, h⟩ := P l0 hm0 y0 hw0
 refine (laws_FnNetOk.calls k _ _ l0 true w (Kd.C_of_reads (d := (0 : Int)) (h1 := fun _ => rfl) hr0) hc0 h).mono ?_
 rintro e w' ⟨rfl, hd⟩
 exact ⟨rfl, hd⟩

end Go.Proofs.Ytfcocnhkimbpbac.MFnNetOk
