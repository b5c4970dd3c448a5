/- Functions that the law FnRouteDrop reaches, each with the proof that the machine's call comes to just its answer; no conditions but those that each theorem states. Printed by a program of this session over the kit's print. -/
import Derived.Test.YtkkibccnpkbbjabMFnRouteDropx0
namespace Go.Proofs.Ytkkibccnpkbbjab.MFnRouteDrop
open Go.RowKit Go.Proofs.YtkkibccnpkbbjabV.PrintWords Go.Proofs.YtkkibccnpkbbjabV.PrintLast Go.Proofs.YtkkibccnpkbbjabV.PrintMore
attribute [local go_sem] max2_int min2_int max_two min_two max_three min_three max_four min_four   -- for this text's walks alone
set_option linter.unusedVariables false
set_option linter.unusedSimpArgs false

/-! ### spec_l1In: function 53 -/
def spec_l1In.f (a0 : Int) (a1 : Int) (a2 : Int) : Option (Bool) := if a0 ≥ a1 then (some (decide (a0 ≤ a2))) else (some false)
set_option maxHeartbeats 8000000 in
set_option maxRecDepth 100000 in
theorem spec_l1In.calls (a0 : Int) (a1 : Int) (a2 : Int) (r : Bool) (w : World) (h : spec_l1In.f a0 a1 a2 = some r) :
  Calls Try.prog 53 #[.int .i64 a0, .int .i64 a1, .int .i64 a2] w fun e w' => e = .returned (.bool r) ∧ Drawn0 w w' := by
 have H : (if a0 ≥ a1 then (some (decide (a0 ≤ a2))) else (some false)) = some r := h
 clear h
 by_cases c4 : a0 ≥ a1
 focus
  rw [if_pos c4] at H
  have c4b0 : decide (a1 ≤ a0) = true := decide_eq_true c4
  clear c4
  obtain rfl := Option.some.inj H
 rotate_left
 focus
  rw [if_neg c4] at H
  have c4b0 : decide (a1 ≤ a0) = false := decide_eq_false c4
  clear c4
  obtain rfl := Option.some.inj H
 rotate_left
 all_goals
  go_enter Try.func53, Try.ntmps53
  go_wp2
  go_ret
  exact ⟨by first | rfl | (simp; done) | (simp [*]; done), by repeat (first | exact Drawn0.refl _ | apply Drawn0.step)⟩

/-! ### spec_l6Rest: function 123 -/
def spec_l6Rest.f (a0 : Int) : Option (Int) := if 0 ≤ (wrap64 (16 - a0)) then (some (shl .i64 1 (wrap64 (16 - a0)))) else (none)
set_option maxHeartbeats 8000000 in
set_option maxRecDepth 100000 in
theorem spec_l6Rest.calls (a0 : Int) (r : Int) (w : World) (h : spec_l6Rest.f a0 = some r) :
  Calls Try.prog 123 #[.int .i64 a0] w fun e w' => e = .returned (.int .i64 r) ∧ Drawn0 w w' := by
 have H := h
 unfold spec_l6Rest.f at H
 clear h
 obtain ⟨ji2, hji2⟩ : ∃ j_ : Int, (wrap64 (16 - a0)) = j_ := ⟨_, rfl⟩
 replace H : (if 0 ≤ (ji2) then (some (shl .i64 1 (ji2))) else (none)) = some r := by first | (rw [hji2] at H; exact H) | (simp only [hji2] at H ⊢; exact H)
 have hji2w : (IntKind.i64.wrap (16 - a0)) = ji2 := (i64_w _).trans hji2
 by_cases c3 : 0 ≤ (ji2)
 rotate_left
 ·rw [if_neg c3] at H
  exact absurd H (by simp)
 rw [if_pos c3] at H
 have c3b0 := eq_true c3
 have c3b1 : decide (0 ≤ (ji2)) = true := decide_eq_true c3
 clear c3
 obtain ⟨ji4, hji4⟩ : ∃ j_ : Int, (shl .i64 1 (ji2)) = j_ := ⟨_, rfl⟩
 replace H : (some ji4) = some r := by first | (rw [hji4] at H; exact H) | (simp only [hji4] at H ⊢; exact H)
 have hji4_ : (IntKind.i64.wrap (1 * 2 ^ min (ji2).toNat 64)) = ji4 := hji4
 have hji4z : (ji2) ≤ 64 → (IntKind.i64.wrap (1 * 2 ^ (ji2).toNat)) = ji4 := shl_small hji4
 have hji4u : (IntKind.i64.wrap (2 ^ min (ji2).toNat 64)) = ji4 := by have h_ := hji4_; rw [Int.one_mul] at h_; exact h_
 have hji4v : (ji2) ≤ 64 → (IntKind.i64.wrap (2 ^ (ji2).toNat)) = ji4 := fun hle_ => by have h_ := hji4z hle_; rw [Int.one_mul] at h_; exact h_
 have hji4y : (wrap64 (1 * 2 ^ min (ji2).toNat 64)) = ji4 := (i64_w _).symm.trans hji4_
 have hji4x : (ji2) ≤ 64 → (wrap64 (1 * 2 ^ (ji2).toNat)) = ji4 := fun h_ => (i64_w _).symm.trans (hji4z h_)
 obtain rfl := Option.some.inj H
 go_enter Try.func123, Try.ntmps123
 go_wp2
 go_ret
 exact ⟨by first | rfl | (simp; done) | (simp only [← hji2, ← hji4] <;> (first | rfl | simp)) | (simp [*]; done), by repeat (first | exact Drawn0.refl _ | apply Drawn0.step)⟩

/-! ### spec_RouteOk: function 117 -/
def spec_RouteOk.f (a0_0 : Int) (a0_1 : Int) (a0_2 : Int) (a0_3 : Int) : Option (Bool) := (spec_l1In.f a0_1 0 16).bind fun t155 => (if t155 = true then ((spec_l1In.f a0_0 0 65535).bind fun t156 => (if t156 = true then ((spec_l6Rest.f a0_1).bind fun t157 => (if t157 = 0 then (none) else (if (Int.tmod a0_0 t157) = 0 then ((spec_l1In.f a0_2 0 65535).bind fun t158 => (if t158 = true then ((spec_l1In.f a0_3 1 48).bind fun t159 => (some t159)) else (some false))) else (some false)))) else (some false))) else (some false))
set_option maxHeartbeats 8000000 in
set_option maxRecDepth 100000 in
theorem spec_RouteOk.calls (a0_0 : Int) (a0_1 : Int) (a0_2 : Int) (a0_3 : Int) (r : Bool) (w : World) (h : spec_RouteOk.f a0_0 a0_1 a0_2 a0_3 = some r) :
  Calls Try.prog 117 #[.agg #[.int .i64 a0_0, .int .i64 a0_1, .int .i64 a0_2, .int .i64 a0_3]] w fun e w' => e = .returned (.bool r) ∧ Below w.heap.size w w' := by
 have hu29 := Try.underlying29
 have HB := mk_ (Below.refl w.heap.size w)
 have H := h
 unfold spec_RouteOk.f at H
 clear h
 replace H := Option.bind_eq_some_iff.mp H
 obtain ⟨t155, A20, H⟩ := H
 (try dsimp only at H)
 have A2 := mk_ A20
 clear A20
 by_cases c3 : t155 = true
 rotate_left
 focus
  replace c3 := Bool.eq_false_iff.mpr c3
  subst c3
  have H1 : (some false) = some r := by rw [if_neg (show ¬ (false = true) by decide)] at H; exact H
  clear H
  have H := H1
  clear H1
  obtain rfl := Option.some.inj H
 rotate_left
 focus
  subst c3
  rw [if_pos rfl] at H
  replace H := Option.bind_eq_some_iff.mp H
  obtain ⟨t156, A40, H⟩ := H
  (try dsimp only at H)
  have A4 := mk_ A40
  clear A40
  by_cases c5 : t156 = true
  rotate_left
  focus
   replace c5 := Bool.eq_false_iff.mpr c5
   subst c5
   have H1 : (some false) = some r := by rw [if_neg (show ¬ (false = true) by decide)] at H; exact H
   clear H
   have H := H1
   clear H1
   obtain rfl := Option.some.inj H
  rotate_left
  focus
   subst c5
   rw [if_pos rfl] at H
   replace H := Option.bind_eq_some_iff.mp H
   obtain ⟨t157, A60, H⟩ := H
   (try dsimp only at H)
   have A6 := mk_ A60
   clear A60
   by_cases c7 : t157 = 0
   ·rw [if_pos c7] at H
    exact absurd H (by simp)
   rw [if_neg c7] at H
   have c7b0 : (t157 == 0) = false := beq_eq_false_iff_ne.mpr c7
   have c7b1 : (t157 != 0) = true := bne_iff_ne.mpr c7
   by_cases c8 : (Int.tmod a0_0 t157) = 0
   rotate_left
   focus
    rw [if_neg c8] at H
    have c8b0 : ((Int.tmod a0_0 t157) == 0) = false := beq_eq_false_iff_ne.mpr c8
    have c8b1 : ((Int.tmod a0_0 t157) != 0) = true := bne_iff_ne.mpr c8
    obtain rfl := Option.some.inj H
   rotate_left
   focus
    rw [if_pos c8] at H
    have c8b0 : ((Int.tmod a0_0 t157) == 0) = true := beq_iff_eq.mpr c8
    have c8b1 : ((Int.tmod a0_0 t157) != 0) = false := bne_eq_false_iff_eq.mpr c8
    clear c8
    replace H := Option.bind_eq_some_iff.mp H
    obtain ⟨t158, A90, H⟩ := H
    (try dsimp only at H)
    have A9 := mk_ A90
    clear A90
    by_cases c10 : t158 = true
    rotate_left
    focus
     replace c10 := Bool.eq_false_iff.mpr c10
     subst c10
     have H1 : (some false) = some r := by rw [if_neg (show ¬ (false = true) by decide)] at H; exact H
     clear H
     have H := H1
     clear H1
     obtain rfl := Option.some.inj H
    rotate_left
    focus
     subst c10
     rw [if_pos rfl] at H
     replace H := Option.bind_eq_some_iff.mp H
     obtain ⟨t159, A110, H⟩ := H
     replace H : (some t159) = some r := H
     have A11 := mk_ A110
     clear A110
     obtain rfl := Option.some.inj H
    rotate_left
   rotate_left 2
  rotate_left 3
 rotate_left 4
 all_goals
  go_enter Try.func117, Try.ntmps117
  go_wp2_with (first | ((with_reducible refine gate_dst (N := 1) rfl ?_); refine box_event ?hg (N := 1) ?hd (cs := #[.int .i64 a0_0, .int .i64 a0_1, .int .i64 a0_2, .int .i64 a0_3]) (t := 29) ?hr ?_; (case hd => rfl); (case hg => rfl); (case hr => first | (go_simp; done) | (go_simp; rfl)); intro gb8200 hg w8201 hbox hb; have n0_ := mk_ (below_step (ub_ HB.out) hb); have BK154 := mk_ (hbox); have GW154 := mk_ ((by rw [hg]; exact (below_size (ub_ HB.out)) : w.heap.size ≤ gb8200)); have GE154 := ge_ ((by rw [hg]; exact (below_size (ub_ HB.out)) : w.heap.size ≤ gb8200)); replace HB := n0_; clear n0_; clear hb hbox hg; obtain ⟨hcz1800154_0, hcz1800154_1, hcz1800154_2, hcz1800154_3, hfz1800154_0, hfz1800154_1, hfz1800154_2, hfz1800154_3⟩ := cells4_ BK154.out) | (go_at_call 53; (with_reducible refine (spec_l1In.calls a0_1 0 16 false _ A2.out).mono ?_); rintro e w' ⟨rfl, ⟨nd, rfl⟩⟩; (try first | exact ⟨rfl, _, World.drewN_drewN _ _ _⟩ | exact ⟨rfl, _, Eq.trans (World.drewN_drewN _ _ _) (congrArg (World.drewN _) (Nat.add_assoc _ _ _))⟩)) | (go_at_call 53; have hA_ := A2.out; (with_reducible refine (spec_l1In.calls a0_1 0 16 true _ A2.out).mono ?_); rintro e w' ⟨rfl, ⟨nd, rfl⟩⟩; (try first | exact ⟨rfl, _, World.drewN_drewN _ _ _⟩ | exact ⟨rfl, _, Eq.trans (World.drewN_drewN _ _ _) (congrArg (World.drewN _) (Nat.add_assoc _ _ _))⟩); clear hA_ A2) | (go_at_call 53; have hA_ := A4.out; (with_reducible refine (spec_l1In.calls a0_0 0 65535 false _ A4.out).mono ?_); rintro e w' ⟨rfl, ⟨nd, rfl⟩⟩; (try first | exact ⟨rfl, _, World.drewN_drewN _ _ _⟩ | exact ⟨rfl, _, Eq.trans (World.drewN_drewN _ _ _) (congrArg (World.drewN _) (Nat.add_assoc _ _ _))⟩); clear hA_ A4) | (go_at_call 53; have hA_ := A4.out; (with_reducible refine (spec_l1In.calls a0_0 0 65535 true _ A4.out).mono ?_); rintro e w' ⟨rfl, ⟨nd, rfl⟩⟩; (try first | exact ⟨rfl, _, World.drewN_drewN _ _ _⟩ | exact ⟨rfl, _, Eq.trans (World.drewN_drewN _ _ _) (congrArg (World.drewN _) (Nat.add_assoc _ _ _))⟩); clear hA_ A4) | (go_at_call 123; (with_reducible refine (spec_l6Rest.calls a0_1 t157 _ A6.out).mono ?_); rintro e w' ⟨rfl, ⟨nd, rfl⟩⟩; (try first | exact ⟨rfl, _, World.drewN_drewN _ _ _⟩ | exact ⟨rfl, _, Eq.trans (World.drewN_drewN _ _ _) (congrArg (World.drewN _) (Nat.add_assoc _ _ _))⟩)) | (go_at_call 53; have hA_ := A9.out; (with_reducible refine (spec_l1In.calls a0_2 0 65535 false _ A9.out).mono ?_); rintro e w' ⟨rfl, ⟨nd, rfl⟩⟩; (try first | exact ⟨rfl, _, World.drewN_drewN _ _ _⟩ | exact ⟨rfl, _, Eq.trans (World.drewN_drewN _ _ _) (congrArg (World.drewN _) (Nat.add_assoc _ _ _))⟩); clear hA_ A9) | (go_at_call 53; have hA_ := A9.out; (with_reducible refine (spec_l1In.calls a0_2 0 65535 true _ A9.out).mono ?_); rintro e w' ⟨rfl, ⟨nd, rfl⟩⟩; (try first | exact ⟨rfl, _, World.drewN_drewN _ _ _⟩ | exact ⟨rfl, _, Eq.trans (World.drewN_drewN _ _ _) (congrArg (World.drewN _) (Nat.add_assoc _ _ _))⟩); clear hA_ A9) | (go_at_call 53; have hA_ := A11.out; (with_reducible refine (spec_l1In.calls a0_3 1 48 t159 _ A11.out).mono ?_); rintro e w' ⟨rfl, ⟨nd, rfl⟩⟩; (try first | exact ⟨rfl, _, World.drewN_drewN _ _ _⟩ | exact ⟨rfl, _, Eq.trans (World.drewN_drewN _ _ _) (congrArg (World.drewN _) (Nat.add_assoc _ _ _))⟩); clear hA_ A11))
 ·repeat (go_quiet (first | ((with_reducible refine gate_dst (N := 1) rfl ?_); refine box_event ?hg (N := 1) ?hd (cs := #[.int .i64 a0_0, .int .i64 a0_1, .int .i64 a0_2, .int .i64 a0_3]) (t := 29) ?hr ?_; (case hd => rfl); (case hg => rfl); (case hr => first | (go_simp; done) | (go_simp; rfl)); intro gb8200 hg w8201 hbox hb; have n0_ := mk_ (below_step (ub_ HB.out) hb); have BK154 := mk_ (hbox); have GW154 := mk_ ((by rw [hg]; exact (below_size (ub_ HB.out)) : w.heap.size ≤ gb8200)); have GE154 := ge_ ((by rw [hg]; exact (below_size (ub_ HB.out)) : w.heap.size ≤ gb8200)); replace HB := n0_; clear n0_; clear hb hbox hg; obtain ⟨hcz1800154_0, hcz1800154_1, hcz1800154_2, hcz1800154_3, hfz1800154_0, hfz1800154_1, hfz1800154_2, hfz1800154_3⟩ := cells4_ BK154.out) | (go_at_call 53; (with_reducible refine (spec_l1In.calls a0_1 0 16 false _ A2.out).mono ?_); rintro e w' ⟨rfl, ⟨nd, rfl⟩⟩; (try first | exact ⟨rfl, _, World.drewN_drewN _ _ _⟩ | exact ⟨rfl, _, Eq.trans (World.drewN_drewN _ _ _) (congrArg (World.drewN _) (Nat.add_assoc _ _ _))⟩))); try go_wp2_with (first | ((with_reducible refine gate_dst (N := 1) rfl ?_); refine box_event ?hg (N := 1) ?hd (cs := #[.int .i64 a0_0, .int .i64 a0_1, .int .i64 a0_2, .int .i64 a0_3]) (t := 29) ?hr ?_; (case hd => rfl); (case hg => rfl); (case hr => first | (go_simp; done) | (go_simp; rfl)); intro gb8200 hg w8201 hbox hb; have n0_ := mk_ (below_step (ub_ HB.out) hb); have BK154 := mk_ (hbox); have GW154 := mk_ ((by rw [hg]; exact (below_size (ub_ HB.out)) : w.heap.size ≤ gb8200)); have GE154 := ge_ ((by rw [hg]; exact (below_size (ub_ HB.out)) : w.heap.size ≤ gb8200)); replace HB := n0_; clear n0_; clear hb hbox hg; obtain ⟨hcz1800154_0, hcz1800154_1, hcz1800154_2, hcz1800154_3, hfz1800154_0, hfz1800154_1, hfz1800154_2, hfz1800154_3⟩ := cells4_ BK154.out) | (go_at_call 53; (with_reducible refine (spec_l1In.calls a0_1 0 16 false _ A2.out).mono ?_); rintro e w' ⟨rfl, ⟨nd, rfl⟩⟩; (try first | exact ⟨rfl, _, World.drewN_drewN _ _ _⟩ | exact ⟨rfl, _, Eq.trans (World.drewN_drewN _ _ _) (congrArg (World.drewN _) (Nat.add_assoc _ _ _))⟩))))
  go_ret
  exact ⟨by first | rfl | (simp [errW_none, errW_some] <;> rfl) | (simp [*, errW_none, errW_some] <;> rfl), us_ HB.out⟩
 ·repeat (go_quiet (first | ((with_reducible refine gate_dst (N := 1) rfl ?_); refine box_event ?hg (N := 1) ?hd (cs := #[.int .i64 a0_0, .int .i64 a0_1, .int .i64 a0_2, .int .i64 a0_3]) (t := 29) ?hr ?_; (case hd => rfl); (case hg => rfl); (case hr => first | (go_simp; done) | (go_simp; rfl)); intro gb8200 hg w8201 hbox hb; have n0_ := mk_ (below_step (ub_ HB.out) hb); have BK154 := mk_ (hbox); have GW154 := mk_ ((by rw [hg]; exact (below_size (ub_ HB.out)) : w.heap.size ≤ gb8200)); have GE154 := ge_ ((by rw [hg]; exact (below_size (ub_ HB.out)) : w.heap.size ≤ gb8200)); replace HB := n0_; clear n0_; clear hb hbox hg; obtain ⟨hcz1800154_0, hcz1800154_1, hcz1800154_2, hcz1800154_3, hfz1800154_0, hfz1800154_1, hfz1800154_2, hfz1800154_3⟩ := cells4_ BK154.out) | (go_at_call 53; (with_reducible refine (spec_l1In.calls a0_1 0 16 true _ A2.out).mono ?_); rintro e w' ⟨rfl, ⟨nd, rfl⟩⟩; (try first | exact ⟨rfl, _, World.drewN_drewN _ _ _⟩ | exact ⟨rfl, _, Eq.trans (World.drewN_drewN _ _ _) (congrArg (World.drewN _) (Nat.add_assoc _ _ _))⟩)) | (go_at_call 53; (with_reducible refine (spec_l1In.calls a0_0 0 65535 false _ A4.out).mono ?_); rintro e w' ⟨rfl, ⟨nd, rfl⟩⟩; (try first | exact ⟨rfl, _, World.drewN_drewN _ _ _⟩ | exact ⟨rfl, _, Eq.trans (World.drewN_drewN _ _ _) (congrArg (World.drewN _) (Nat.add_assoc _ _ _))⟩))); try go_wp2_with (first | ((with_reducible refine gate_dst (N := 1) rfl ?_); refine box_event ?hg (N := 1) ?hd (cs := #[.int .i64 a0_0, .int .i64 a0_1, .int .i64 a0_2, .int .i64 a0_3]) (t := 29) ?hr ?_; (case hd => rfl); (case hg => rfl); (case hr => first | (go_simp; done) | (go_simp; rfl)); intro gb8200 hg w8201 hbox hb; have n0_ := mk_ (below_step (ub_ HB.out) hb); have BK154 := mk_ (hbox); have GW154 := mk_ ((by rw [hg]; exact (below_size (ub_ HB.out)) : w.heap.size ≤ gb8200)); have GE154 := ge_ ((by rw [hg]; exact (below_size (ub_ HB.out)) : w.heap.size ≤ gb8200)); replace HB := n0_; clear n0_; clear hb hbox hg; obtain ⟨hcz1800154_0, hcz1800154_1, hcz1800154_2, hcz1800154_3, hfz1800154_0, hfz1800154_1, hfz1800154_2, hfz1800154_3⟩ := cells4_ BK154.out) | (go_at_call 53; (with_reducible refine (spec_l1In.calls a0_1 0 16 true _ A2.out).mono ?_); rintro e w' ⟨rfl, ⟨nd, rfl⟩⟩; (try first | exact ⟨rfl, _, World.drewN_drewN _ _ _⟩ | exact ⟨rfl, _, Eq.trans (World.drewN_drewN _ _ _) (congrArg (World.drewN _) (Nat.add_assoc _ _ _))⟩)) | (go_at_call 53; (with_reducible refine (spec_l1In.calls a0_0 0 65535 false _ A4.out).mono ?_); rintro e w' ⟨rfl, ⟨nd, rfl⟩⟩; (try first | exact ⟨rfl, _, World.drewN_drewN _ _ _⟩ | exact ⟨rfl, _, Eq.trans (World.drewN_drewN _ _ _) (congrArg (World.drewN _) (Nat.add_assoc _ _ _))⟩))))
  go_ret
  exact ⟨by first | rfl | (simp [errW_none, errW_some] <;> rfl) | (simp [*, errW_none, errW_some] <;> rfl), us_ HB.out⟩
 ·repeat (go_quiet (first | ((with_reducible refine gate_dst (N := 1) rfl ?_); refine box_event ?hg (N := 1) ?hd (cs := #[.int .i64 a0_0, .int .i64 a0_1, .int .i64 a0_2, .int .i64 a0_3]) (t := 29) ?hr ?_; (case hd => rfl); (case hg => rfl); (case hr => first | (go_simp; done) | (go_simp; rfl)); intro gb8200 hg w8201 hbox hb; have n0_ := mk_ (below_step (ub_ HB.out) hb); have BK154 := mk_ (hbox); have GW154 := mk_ ((by rw [hg]; exact (below_size (ub_ HB.out)) : w.heap.size ≤ gb8200)); have GE154 := ge_ ((by rw [hg]; exact (below_size (ub_ HB.out)) : w.heap.size ≤ gb8200)); replace HB := n0_; clear n0_; clear hb hbox hg; obtain ⟨hcz1800154_0, hcz1800154_1, hcz1800154_2, hcz1800154_3, hfz1800154_0, hfz1800154_1, hfz1800154_2, hfz1800154_3⟩ := cells4_ BK154.out) | (go_at_call 53; (with_reducible refine (spec_l1In.calls a0_1 0 16 true _ A2.out).mono ?_); rintro e w' ⟨rfl, ⟨nd, rfl⟩⟩; (try first | exact ⟨rfl, _, World.drewN_drewN _ _ _⟩ | exact ⟨rfl, _, Eq.trans (World.drewN_drewN _ _ _) (congrArg (World.drewN _) (Nat.add_assoc _ _ _))⟩)) | (go_at_call 53; (with_reducible refine (spec_l1In.calls a0_0 0 65535 true _ A4.out).mono ?_); rintro e w' ⟨rfl, ⟨nd, rfl⟩⟩; (try first | exact ⟨rfl, _, World.drewN_drewN _ _ _⟩ | exact ⟨rfl, _, Eq.trans (World.drewN_drewN _ _ _) (congrArg (World.drewN _) (Nat.add_assoc _ _ _))⟩)) | (go_at_call 123; (with_reducible refine (spec_l6Rest.calls a0_1 t157 _ A6.out).mono ?_); rintro e w' ⟨rfl, ⟨nd, rfl⟩⟩; (try first | exact ⟨rfl, _, World.drewN_drewN _ _ _⟩ | exact ⟨rfl, _, Eq.trans (World.drewN_drewN _ _ _) (congrArg (World.drewN _) (Nat.add_assoc _ _ _))⟩))); try go_wp2_with (first | ((with_reducible refine gate_dst (N := 1) rfl ?_); refine box_event ?hg (N := 1) ?hd (cs := #[.int .i64 a0_0, .int .i64 a0_1, .int .i64 a0_2, .int .i64 a0_3]) (t := 29) ?hr ?_; (case hd => rfl); (case hg => rfl); (case hr => first | (go_simp; done) | (go_simp; rfl)); intro gb8200 hg w8201 hbox hb; have n0_ := mk_ (below_step (ub_ HB.out) hb); have BK154 := mk_ (hbox); have GW154 := mk_ ((by rw [hg]; exact (below_size (ub_ HB.out)) : w.heap.size ≤ gb8200)); have GE154 := ge_ ((by rw [hg]; exact (below_size (ub_ HB.out)) : w.heap.size ≤ gb8200)); replace HB := n0_; clear n0_; clear hb hbox hg; obtain ⟨hcz1800154_0, hcz1800154_1, hcz1800154_2, hcz1800154_3, hfz1800154_0, hfz1800154_1, hfz1800154_2, hfz1800154_3⟩ := cells4_ BK154.out) | (go_at_call 53; (with_reducible refine (spec_l1In.calls a0_1 0 16 true _ A2.out).mono ?_); rintro e w' ⟨rfl, ⟨nd, rfl⟩⟩; (try first | exact ⟨rfl, _, World.drewN_drewN _ _ _⟩ | exact ⟨rfl, _, Eq.trans (World.drewN_drewN _ _ _) (congrArg (World.drewN _) (Nat.add_assoc _ _ _))⟩)) | (go_at_call 53; (with_reducible refine (spec_l1In.calls a0_0 0 65535 true _ A4.out).mono ?_); rintro e w' ⟨rfl, ⟨nd, rfl⟩⟩; (try first | exact ⟨rfl, _, World.drewN_drewN _ _ _⟩ | exact ⟨rfl, _, Eq.trans (World.drewN_drewN _ _ _) (congrArg (World.drewN _) (Nat.add_assoc _ _ _))⟩)) | (go_at_call 123; (with_reducible refine (spec_l6Rest.calls a0_1 t157 _ A6.out).mono ?_); rintro e w' ⟨rfl, ⟨nd, rfl⟩⟩; (try first | exact ⟨rfl, _, World.drewN_drewN _ _ _⟩ | exact ⟨rfl, _, Eq.trans (World.drewN_drewN _ _ _) (congrArg (World.drewN _) (Nat.add_assoc _ _ _))⟩))))
  go_ret
  exact ⟨by first | rfl | (simp [errW_none, errW_some] <;> rfl) | (simp [*, errW_none, errW_some] <;> rfl), us_ HB.out⟩
 ·repeat (go_quiet (first | ((with_reducible refine gate_dst (N := 1) rfl ?_); refine box_event ?hg (N := 1) ?hd (cs := #[.int .i64 a0_0, .int .i64 a0_1, .int .i64 a0_2, .int .i64 a0_3]) (t := 29) ?hr ?_; (case hd => rfl); (case hg => rfl); (case hr => first | (go_simp; done) | (go_simp; rfl)); intro gb8200 hg w8201 hbox hb; have n0_ := mk_ (below_step (ub_ HB.out) hb); have BK154 := mk_ (hbox); have GW154 := mk_ ((by rw [hg]; exact (below_size (ub_ HB.out)) : w.heap.size ≤ gb8200)); have GE154 := ge_ ((by rw [hg]; exact (below_size (ub_ HB.out)) : w.heap.size ≤ gb8200)); replace HB := n0_; clear n0_; clear hb hbox hg; obtain ⟨hcz1800154_0, hcz1800154_1, hcz1800154_2, hcz1800154_3, hfz1800154_0, hfz1800154_1, hfz1800154_2, hfz1800154_3⟩ := cells4_ BK154.out) | (go_at_call 53; (with_reducible refine (spec_l1In.calls a0_1 0 16 true _ A2.out).mono ?_); rintro e w' ⟨rfl, ⟨nd, rfl⟩⟩; (try first | exact ⟨rfl, _, World.drewN_drewN _ _ _⟩ | exact ⟨rfl, _, Eq.trans (World.drewN_drewN _ _ _) (congrArg (World.drewN _) (Nat.add_assoc _ _ _))⟩)) | (go_at_call 53; (with_reducible refine (spec_l1In.calls a0_0 0 65535 true _ A4.out).mono ?_); rintro e w' ⟨rfl, ⟨nd, rfl⟩⟩; (try first | exact ⟨rfl, _, World.drewN_drewN _ _ _⟩ | exact ⟨rfl, _, Eq.trans (World.drewN_drewN _ _ _) (congrArg (World.drewN _) (Nat.add_assoc _ _ _))⟩)) | (go_at_call 123; (with_reducible refine (spec_l6Rest.calls a0_1 t157 _ A6.out).mono ?_); rintro e w' ⟨rfl, ⟨nd, rfl⟩⟩; (try first | exact ⟨rfl, _, World.drewN_drewN _ _ _⟩ | exact ⟨rfl, _, Eq.trans (World.drewN_drewN _ _ _) (congrArg (World.drewN _) (Nat.add_assoc _ _ _))⟩)) | (go_at_call 53; (with_reducible refine (spec_l1In.calls a0_2 0 65535 false _ A9.out).mono ?_); rintro e w' ⟨rfl, ⟨nd, rfl⟩⟩; (try first | exact ⟨rfl, _, World.drewN_drewN _ _ _⟩ | exact ⟨rfl, _, Eq.trans (World.drewN_drewN _ _ _) (congrArg (World.drewN _) (Nat.add_assoc _ _ _))⟩))); try go_wp2_with (first | ((with_reducible refine gate_dst (N := 1) rfl ?_); refine box_event ?hg (N := 1) ?hd (cs := #[.int .i64 a0_0, .int .i64 a0_1, .int .i64 a0_2, .int .i64 a0_3]) (t := 29) ?hr ?_; (case hd => rfl); (case hg => rfl); (case hr => first | (go_simp; done) | (go_simp; rfl)); intro gb8200 hg w8201 hbox hb; have n0_ := mk_ (below_step (ub_ HB.out) hb); have BK154 := mk_ (hbox); have GW154 := mk_ ((by rw [hg]; exact (below_size (ub_ HB.out)) : w.heap.size ≤ gb8200)); have GE154 := ge_ ((by rw [hg]; exact (below_size (ub_ HB.out)) : w.heap.size ≤ gb8200)); replace HB := n0_; clear n0_; clear hb hbox hg; obtain ⟨hcz1800154_0, hcz1800154_1, hcz1800154_2, hcz1800154_3, hfz1800154_0, hfz1800154_1, hfz1800154_2, hfz1800154_3⟩ := cells4_ BK154.out) | (go_at_call 53; (with_reducible refine (spec_l1In.calls a0_1 0 16 true _ A2.out).mono ?_); rintro e w' ⟨rfl, ⟨nd, rfl⟩⟩; (try first | exact ⟨rfl, _, World.drewN_drewN _ _ _⟩ | exact ⟨rfl, _, Eq.trans (World.drewN_drewN _ _ _) (congrArg (World.drewN _) (Nat.add_assoc _ _ _))⟩)) | (go_at_call 53; (with_reducible refine (spec_l1In.calls a0_0 0 65535 true _ A4.out).mono ?_); rintro e w' ⟨rfl, ⟨nd, rfl⟩⟩; (try first | exact ⟨rfl, _, World.drewN_drewN _ _ _⟩ | exact ⟨rfl, _, Eq.trans (World.drewN_drewN _ _ _) (congrArg (World.drewN _) (Nat.add_assoc _ _ _))⟩)) | (go_at_call 123; (with_reducible refine (spec_l6Rest.calls a0_1 t157 _ A6.out).mono ?_); rintro e w' ⟨rfl, ⟨nd, rfl⟩⟩; (try first | exact ⟨rfl, _, World.drewN_drewN _ _ _⟩ | exact ⟨rfl, _, Eq.trans (World.drewN_drewN _ _ _) (congrArg (World.drewN _) (Nat.add_assoc _ _ _))⟩)) | (go_at_call 53; (with_reducible refine (spec_l1In.calls a0_2 0 65535 false _ A9.out).mono ?_); rintro e w' ⟨rfl, ⟨nd, rfl⟩⟩; (try first | exact ⟨rfl, _, World.drewN_drewN _ _ _⟩ | exact ⟨rfl, _, Eq.trans (World.drewN_drewN _ _ _) (congrArg (World.drewN _) (Nat.add_assoc _ _ _))⟩))))
  go_ret
  exact ⟨by first | rfl | (simp [errW_none, errW_some] <;> rfl) | (simp [*, errW_none, errW_some] <;> rfl), us_ HB.out⟩
 ·repeat (go_quiet (first | ((with_reducible refine gate_dst (N := 1) rfl ?_); refine box_event ?hg (N := 1) ?hd (cs := #[.int .i64 a0_0, .int .i64 a0_1, .int .i64 a0_2, .int .i64 a0_3]) (t := 29) ?hr ?_; (case hd => rfl); (case hg => rfl); (case hr => first | (go_simp; done) | (go_simp; rfl)); intro gb8200 hg w8201 hbox hb; have n0_ := mk_ (below_step (ub_ HB.out) hb); have BK154 := mk_ (hbox); have GW154 := mk_ ((by rw [hg]; exact (below_size (ub_ HB.out)) : w.heap.size ≤ gb8200)); have GE154 := ge_ ((by rw [hg]; exact (below_size (ub_ HB.out)) : w.heap.size ≤ gb8200)); replace HB := n0_; clear n0_; clear hb hbox hg; obtain ⟨hcz1800154_0, hcz1800154_1, hcz1800154_2, hcz1800154_3, hfz1800154_0, hfz1800154_1, hfz1800154_2, hfz1800154_3⟩ := cells4_ BK154.out) | (go_at_call 53; (with_reducible refine (spec_l1In.calls a0_1 0 16 true _ A2.out).mono ?_); rintro e w' ⟨rfl, ⟨nd, rfl⟩⟩; (try first | exact ⟨rfl, _, World.drewN_drewN _ _ _⟩ | exact ⟨rfl, _, Eq.trans (World.drewN_drewN _ _ _) (congrArg (World.drewN _) (Nat.add_assoc _ _ _))⟩)) | (go_at_call 53; (with_reducible refine (spec_l1In.calls a0_0 0 65535 true _ A4.out).mono ?_); rintro e w' ⟨rfl, ⟨nd, rfl⟩⟩; (try first | exact ⟨rfl, _, World.drewN_drewN _ _ _⟩ | exact ⟨rfl, _, Eq.trans (World.drewN_drewN _ _ _) (congrArg (World.drewN _) (Nat.add_assoc _ _ _))⟩)) | (go_at_call 123; (with_reducible refine (spec_l6Rest.calls a0_1 t157 _ A6.out).mono ?_); rintro e w' ⟨rfl, ⟨nd, rfl⟩⟩; (try first | exact ⟨rfl, _, World.drewN_drewN _ _ _⟩ | exact ⟨rfl, _, Eq.trans (World.drewN_drewN _ _ _) (congrArg (World.drewN _) (Nat.add_assoc _ _ _))⟩)) | (go_at_call 53; (with_reducible refine (spec_l1In.calls a0_2 0 65535 true _ A9.out).mono ?_); rintro e w' ⟨rfl, ⟨nd, rfl⟩⟩; (try first | exact ⟨rfl, _, World.drewN_drewN _ _ _⟩ | exact ⟨rfl, _, Eq.trans (World.drewN_drewN _ _ _) (congrArg (World.drewN _) (Nat.add_assoc _ _ _))⟩)) | (go_at_call 53; (with_reducible refine (spec_l1In.calls a0_3 1 48 t159 _ A11.out).mono ?_); rintro e w' ⟨rfl, ⟨nd, rfl⟩⟩; (try first | exact ⟨rfl, _, World.drewN_drewN _ _ _⟩ | exact ⟨rfl, _, Eq.trans (World.drewN_drewN _ _ _) (congrArg (World.drewN _) (Nat.add_assoc _ _ _))⟩))); try go_wp2_with (first | ((with_reducible refine gate_dst (N := 1) rfl ?_); refine box_event ?hg (N := 1) ?hd (cs := #[.int .i64 a0_0, .int .i64 a0_1, .int .i64 a0_2, .int .i64 a0_3]) (t := 29) ?hr ?_; (case hd => rfl); (case hg => rfl); (case hr => first | (go_simp; done) | (go_simp; rfl)); intro gb8200 hg w8201 hbox hb; have n0_ := mk_ (below_step (ub_ HB.out) hb); have BK154 := mk_ (hbox); have GW154 := mk_ ((by rw [hg]; exact (below_size (ub_ HB.out)) : w.heap.size ≤ gb8200)); have GE154 := ge_ ((by rw [hg]; exact (below_size (ub_ HB.out)) : w.heap.size ≤ gb8200)); replace HB := n0_; clear n0_; clear hb hbox hg; obtain ⟨hcz1800154_0, hcz1800154_1, hcz1800154_2, hcz1800154_3, hfz1800154_0, hfz1800154_1, hfz1800154_2, hfz1800154_3⟩ := cells4_ BK154.out) | (go_at_call 53; (with_reducible refine (spec_l1In.calls a0_1 0 16 true _ A2.out).mono ?_); rintro e w' ⟨rfl, ⟨nd, rfl⟩⟩; (try first | exact ⟨rfl, _, World.drewN_drewN _ _ _⟩ | exact ⟨rfl, _, Eq.trans (World.drewN_drewN _ _ _) (congrArg (World.drewN _) (Nat.add_assoc _ _ _))⟩)) | (go_at_call 53; (with_reducible refine (spec_l1In.calls a0_0 0 65535 true _ A4.out).mono ?_); rintro e w' ⟨rfl, ⟨nd, rfl⟩⟩; (try first | exact ⟨rfl, _, World.drewN_drewN _ _ _⟩ | exact ⟨rfl, _, Eq.trans (World.drewN_drewN _ _ _) (congrArg (World.drewN _) (Nat.add_assoc _ _ _))⟩)) | (go_at_call 123; (with_reducible refine (spec_l6Rest.calls a0_1 t157 _ A6.out).mono ?_); rintro e w' ⟨rfl, ⟨nd, rfl⟩⟩; (try first | exact ⟨rfl, _, World.drewN_drewN _ _ _⟩ | exact ⟨rfl, _, Eq.trans (World.drewN_drewN _ _ _) (congrArg (World.drewN _) (Nat.add_assoc _ _ _))⟩)) | (go_at_call 53; (with_reducible refine (spec_l1In.calls a0_2 0 65535 true _ A9.out).mono ?_); rintro e w' ⟨rfl, ⟨nd, rfl⟩⟩; (try first | exact ⟨rfl, _, World.drewN_drewN _ _ _⟩ | exact ⟨rfl, _, Eq.trans (World.drewN_drewN _ _ _) (congrArg (World.drewN _) (Nat.add_assoc _ _ _))⟩)) | (go_at_call 53; (with_reducible refine (spec_l1In.calls a0_3 1 48 t159 _ A11.out).mono ?_); rintro e w' ⟨rfl, ⟨nd, rfl⟩⟩; (try first | exact ⟨rfl, _, World.drewN_drewN _ _ _⟩ | exact ⟨rfl, _, Eq.trans (World.drewN_drewN _ _ _) (congrArg (World.drewN _) (Nat.add_assoc _ _ _))⟩))))
  go_ret
  exact ⟨by first | rfl | (simp [errW_none, errW_some] <;> rfl) | (simp [*, errW_none, errW_some] <;> rfl), us_ HB.out⟩

/-! ### spec_RoutesOk: function 84 -/
def spec_RoutesOk.l0 : Nat → List (S29) → Int → Option (Bool)
 | 0, _, _ => none
 | k + 1, x0, x3 => if x3 < (x0.length : Int) then (if 0 ≤ x3 then ((spec_RouteOk.f ((rd_T29 x0 x3).f0) ((rd_T29 x0 x3).f1) ((rd_T29 x0 x3).f2) ((rd_T29 x0 x3).f3)).bind fun t161 => (if t161 = true then (if x3 > 0 then (if 0 ≤ (wrap64 (x3 - 1)) then (if (wrap64 (x3 - 1)) < (x0.length : Int) then (if ((rd_T29 x0 (wrap64 (x3 - 1))).f1) > ((rd_T29 x0 x3).f1) then (some false) else (if ((rd_T29 x0 (wrap64 (x3 - 1))).f1) = ((rd_T29 x0 x3).f1) then (if ((rd_T29 x0 (wrap64 (x3 - 1))).f0) ≥ ((rd_T29 x0 x3).f0) then (some false) else (spec_RoutesOk.l0 k x0 (wrap64 (x3 + 1)))) else (spec_RoutesOk.l0 k x0 (wrap64 (x3 + 1))))) else (none)) else (none)) else (spec_RoutesOk.l0 k x0 (wrap64 (x3 + 1)))) else (some false))) else (none)) else (some (decide ((x0.length : Int) ≤ 8)))
def spec_RoutesOk.f (k : Nat) (l0 : List (S29)) : Option (Bool) := spec_RoutesOk.l0 k l0 0
theorem spec_RoutesOk.mono_l : ∀ k, (∀ y0 y1, LeO (spec_RoutesOk.l0 k y0 y1) (spec_RoutesOk.l0 (k + 1) y0 y1))
 | 0 => fun _ _ r h => by simp [spec_RoutesOk.l0] at h
 | k + 1 => by
  have ih0 := spec_RoutesOk.mono_l k
  ·intro y0 y1
   unfold spec_RoutesOk.l0
   repeat' first
   | (with_reducible exact ih0 _ _)
   | (with_reducible exact LeO.refl _)
   | (with_reducible exact LeO.none _)
   | (with_reducible refine LeO.ite ?_ ?_)
   | (with_reducible refine LeO.bind ?_ (fun _ => ?_))
   | exact ih0 _ _
   | exact LeO.none _
   | refine LeO.ite ?_ ?_
   | refine LeO.bind ?_ (fun _ => ?_)
theorem spec_RoutesOk.mono : ∀ a0 k, LeO (spec_RoutesOk.f k a0) (spec_RoutesOk.f (k + 1) a0) := by
 intro a0 k
 have ih0 := spec_RoutesOk.mono_l k
 unfold spec_RoutesOk.f
 repeat' first
   | (with_reducible exact ih0 _ _)
   | (with_reducible exact LeO.refl _)
   | (with_reducible exact LeO.none _)
   | (with_reducible refine LeO.ite ?_ ?_)
   | (with_reducible refine LeO.bind ?_ (fun _ => ?_))
   | exact ih0 _ _
   | exact LeO.none _
   | refine LeO.ite ?_ ?_
   | refine LeO.bind ?_ (fun _ => ?_)
set_option maxHeartbeats 8000000 in
set_option maxRecDepth 100000 in
theorem spec_RoutesOk.calls (k : Nat) (A0 : Option Addr) (c0 : Nat) (l0 : List (S29)) (r : Bool) (w : World) (hr0 : Kd.C k29 w A0 l0.length l0) (hc0 : l0.length ≤ c0) (h : spec_RoutesOk.f k l0 = some r) :
  Calls Try.prog 84 #[.slice A0 l0.length c0] w fun e w' => e = .returned (.bool r) ∧ Below w.heap.size w w' := by
 have hu29 := Try.underlying29
 have HR0 := mk_ hr0
 have HC0 := mk_ hc0
 clear hr0 hc0
 have HB := mk_ (Below.refl w.heap.size w)
 have H : (spec_RoutesOk.l0 k l0 0) = some r := h
 clear h
 have H' := mk_ H
 clear H
 go_enter Try.func84, Try.ntmps84
 go_wp2
 repeat (go_quiet (fail); try go_wp2)
 go_loopg [3] k (fun kq v3 w' => ∃ (x3_1 : Int), v3 = .int .i64 x3_1 ∧ Aside0 (spec_RoutesOk.l0 kq l0 x3_1 = some r) ∧ Aside0 (kq ≤ k) ∧ Aside0 (Below w.heap.size w w'))
 case atStart => exact ⟨(0), (by first | rfl | (simp; done) | (simp [*]; done)), H', ⟨Nat.le_refl _⟩, ⟨ub_ HB.out⟩⟩
 case round =>
  clear H'
  obtain ⟨x3_1, rfl, HA, HK1, HB⟩ := hrel
  cases gk with
  | zero => exact absurd HA.out (by simp [spec_RoutesOk.l0])
  | succ k1 =>
   have H := HA.out
   clear HA
   simp only [spec_RoutesOk.l0] at H
   by_cases c2 : x3_1 < (l0.length : Int)
   rotate_left
   focus
    rw [if_neg c2] at H
    have c2b0 : decide (x3_1 < (l0.length : Int)) = false := decide_eq_false c2
    clear c2
    obtain rfl := Option.some.inj H
   rotate_left
   focus
    rw [if_pos c2] at H
    have c2b0 : decide (x3_1 < (l0.length : Int)) = true := decide_eq_true c2
    clear c2
    by_cases c3 : 0 ≤ x3_1
    rotate_left
    ·rw [if_neg c3] at H
     exact absurd H (by simp)
    rw [if_pos c3] at H
    have c3b0 : decide (0 ≤ x3_1) = true := decide_eq_true c3
    clear c3
    replace H := Option.bind_eq_some_iff.mp H
    obtain ⟨t161, A40, H⟩ := H
    (try dsimp only at H)
    have A4 := mk_ A40
    clear A40
    by_cases c5 : t161 = true
    rotate_left
    focus
     replace c5 := Bool.eq_false_iff.mpr c5
     subst c5
     have H1 : (some false) = some r := by rw [if_neg (show ¬ (false = true) by decide)] at H; exact H
     clear H
     have H := H1
     clear H1
     obtain rfl := Option.some.inj H
     have p160 : 0 ≤ (x3_1 : Int) := of_decide_eq_true (by first | (with_reducible assumption) | assumption)
     have q160 : x3_1 < (l0.length : Int) := of_decide_eq_true (by first | (with_reducible assumption) | assumption)
     obtain ⟨ad160, e160, hx160_0, hx160_1, hx160_2, hx160_3⟩ := at_T29 HR0.out x3_1 p160 q160
     cases e160
     replace hx160_0 := (HB.out.cell (lc_ w _ hx160_0)).trans hx160_0
     replace hx160_1 := (HB.out.cell (lc_ w _ hx160_1)).trans hx160_1
     replace hx160_2 := (HB.out.cell (lc_ w _ hx160_2)).trans hx160_2
     replace hx160_3 := (HB.out.cell (lc_ w _ hx160_3)).trans hx160_3
     replace p160 := eq_true p160
     replace q160 := eq_true q160
    rotate_left
    focus
     subst c5
     rw [if_pos rfl] at H
     by_cases c6 : x3_1 > 0
     rotate_left
     focus
      rw [if_neg c6] at H
      have c6b0 : decide (0 < x3_1) = false := decide_eq_false c6
      clear c6
      have H' := mk_ H
      clear H
      have p160 : 0 ≤ (x3_1 : Int) := of_decide_eq_true (by first | (with_reducible assumption) | assumption)
      have q160 : x3_1 < (l0.length : Int) := of_decide_eq_true (by first | (with_reducible assumption) | assumption)
      obtain ⟨ad160, e160, hx160_0, hx160_1, hx160_2, hx160_3⟩ := at_T29 HR0.out x3_1 p160 q160
      cases e160
      replace hx160_0 := (HB.out.cell (lc_ w _ hx160_0)).trans hx160_0
      replace hx160_1 := (HB.out.cell (lc_ w _ hx160_1)).trans hx160_1
      replace hx160_2 := (HB.out.cell (lc_ w _ hx160_2)).trans hx160_2
      replace hx160_3 := (HB.out.cell (lc_ w _ hx160_3)).trans hx160_3
      replace p160 := eq_true p160
      replace q160 := eq_true q160
     rotate_left
     focus
      rw [if_pos c6] at H
      have c6b0 : decide (0 < x3_1) = true := decide_eq_true c6
      clear c6
      obtain ⟨ji7, hji7⟩ : ∃ j_ : Int, (wrap64 (x3_1 - 1)) = j_ := ⟨_, rfl⟩
      replace H : (if 0 ≤ (ji7) then (if (ji7) < (l0.length : Int) then (if ((rd_T29 l0 (ji7)).f1) > ((rd_T29 l0 x3_1).f1) then (some false) else (if ((rd_T29 l0 (ji7)).f1) = ((rd_T29 l0 x3_1).f1) then (if ((rd_T29 l0 (ji7)).f0) ≥ ((rd_T29 l0 x3_1).f0) then (some false) else (spec_RoutesOk.l0 k1 l0 (wrap64 (x3_1 + 1)))) else (spec_RoutesOk.l0 k1 l0 (wrap64 (x3_1 + 1))))) else (none)) else (none)) = some r := by first | (rw [hji7] at H; exact H) | (simp only [hji7] at H ⊢; exact H)
      (try rw [hji7] at A4)
      have hji7w : (IntKind.i64.wrap (x3_1 - 1)) = ji7 := (i64_w _).trans hji7
      by_cases c8 : 0 ≤ (ji7)
      rotate_left
      ·rw [if_neg c8] at H
       exact absurd H (by simp)
      rw [if_pos c8] at H
      have c8b0 : decide (0 ≤ (ji7)) = true := decide_eq_true c8
      clear c8
      by_cases c9 : (ji7) < (l0.length : Int)
      rotate_left
      ·rw [if_neg c9] at H
       exact absurd H (by simp)
      rw [if_pos c9] at H
      have c9b0 : decide ((ji7) < (l0.length : Int)) = true := decide_eq_true c9
      clear c9
      by_cases c10 : ((rd_T29 l0 (ji7)).f1) > ((rd_T29 l0 x3_1).f1)
      focus
       rw [if_pos c10] at H
       have c10b0 : decide (((rd_T29 l0 x3_1).f1) < ((rd_T29 l0 (ji7)).f1)) = true := decide_eq_true c10
       clear c10
       obtain rfl := Option.some.inj H
       have p160 : 0 ≤ (x3_1 : Int) := of_decide_eq_true (by first | (with_reducible assumption) | assumption)
       have q160 : x3_1 < (l0.length : Int) := of_decide_eq_true (by first | (with_reducible assumption) | assumption)
       obtain ⟨ad160, e160, hx160_0, hx160_1, hx160_2, hx160_3⟩ := at_T29 HR0.out x3_1 p160 q160
       cases e160
       replace hx160_0 := (HB.out.cell (lc_ w _ hx160_0)).trans hx160_0
       replace hx160_1 := (HB.out.cell (lc_ w _ hx160_1)).trans hx160_1
       replace hx160_2 := (HB.out.cell (lc_ w _ hx160_2)).trans hx160_2
       replace hx160_3 := (HB.out.cell (lc_ w _ hx160_3)).trans hx160_3
       replace p160 := eq_true p160
       replace q160 := eq_true q160
      rotate_left
      focus
       rw [if_neg c10] at H
       have c10b0 : decide (((rd_T29 l0 x3_1).f1) < ((rd_T29 l0 (ji7)).f1)) = false := decide_eq_false c10
       clear c10
       by_cases c12 : ((rd_T29 l0 (ji7)).f1) = ((rd_T29 l0 x3_1).f1)
       rotate_left
       focus
        rw [if_neg c12] at H
        have c12b0 : (((rd_T29 l0 (ji7)).f1) == ((rd_T29 l0 x3_1).f1)) = false := beq_eq_false_iff_ne.mpr c12
        have c12b1 : (((rd_T29 l0 (ji7)).f1) != ((rd_T29 l0 x3_1).f1)) = true := bne_iff_ne.mpr c12
        have H' := mk_ H
        clear H
        have p160 : 0 ≤ (x3_1 : Int) := of_decide_eq_true (by first | (with_reducible assumption) | assumption)
        have q160 : x3_1 < (l0.length : Int) := of_decide_eq_true (by first | (with_reducible assumption) | assumption)
        obtain ⟨ad160, e160, hx160_0, hx160_1, hx160_2, hx160_3⟩ := at_T29 HR0.out x3_1 p160 q160
        cases e160
        replace hx160_0 := (HB.out.cell (lc_ w _ hx160_0)).trans hx160_0
        replace hx160_1 := (HB.out.cell (lc_ w _ hx160_1)).trans hx160_1
        replace hx160_2 := (HB.out.cell (lc_ w _ hx160_2)).trans hx160_2
        replace hx160_3 := (HB.out.cell (lc_ w _ hx160_3)).trans hx160_3
        replace p160 := eq_true p160
        replace q160 := eq_true q160
       rotate_left
       focus
        rw [if_pos c12] at H
        have c12b0 : (((rd_T29 l0 (ji7)).f1) == ((rd_T29 l0 x3_1).f1)) = true := beq_iff_eq.mpr c12
        have c12b1 : (((rd_T29 l0 (ji7)).f1) != ((rd_T29 l0 x3_1).f1)) = false := bne_eq_false_iff_eq.mpr c12
        clear c12
        by_cases c13 : ((rd_T29 l0 (ji7)).f0) ≥ ((rd_T29 l0 x3_1).f0)
        focus
         rw [if_pos c13] at H
         have c13b0 : decide (((rd_T29 l0 x3_1).f0) ≤ ((rd_T29 l0 (ji7)).f0)) = true := decide_eq_true c13
         clear c13
         obtain rfl := Option.some.inj H
         have p160 : 0 ≤ (x3_1 : Int) := of_decide_eq_true (by first | (with_reducible assumption) | assumption)
         have q160 : x3_1 < (l0.length : Int) := of_decide_eq_true (by first | (with_reducible assumption) | assumption)
         obtain ⟨ad160, e160, hx160_0, hx160_1, hx160_2, hx160_3⟩ := at_T29 HR0.out x3_1 p160 q160
         cases e160
         replace hx160_0 := (HB.out.cell (lc_ w _ hx160_0)).trans hx160_0
         replace hx160_1 := (HB.out.cell (lc_ w _ hx160_1)).trans hx160_1
         replace hx160_2 := (HB.out.cell (lc_ w _ hx160_2)).trans hx160_2
         replace hx160_3 := (HB.out.cell (lc_ w _ hx160_3)).trans hx160_3
         replace p160 := eq_true p160
         replace q160 := eq_true q160
        rotate_left
        focus
         rw [if_neg c13] at H
         have c13b0 : decide (((rd_T29 l0 x3_1).f0) ≤ ((rd_T29 l0 (ji7)).f0)) = false := decide_eq_false c13
         clear c13
         have H' := mk_ H
         clear H
         have p160 : 0 ≤ (x3_1 : Int) := of_decide_eq_true (by first | (with_reducible assumption) | assumption)
         have q160 : x3_1 < (l0.length : Int) := of_decide_eq_true (by first | (with_reducible assumption) | assumption)
         obtain ⟨ad160, e160, hx160_0, hx160_1, hx160_2, hx160_3⟩ := at_T29 HR0.out x3_1 p160 q160
         cases e160
         replace hx160_0 := (HB.out.cell (lc_ w _ hx160_0)).trans hx160_0
         replace hx160_1 := (HB.out.cell (lc_ w _ hx160_1)).trans hx160_1
         replace hx160_2 := (HB.out.cell (lc_ w _ hx160_2)).trans hx160_2
         replace hx160_3 := (HB.out.cell (lc_ w _ hx160_3)).trans hx160_3
         replace p160 := eq_true p160
         replace q160 := eq_true q160
        rotate_left
       rotate_left 2
      rotate_left 3
     rotate_left 4
    rotate_left 5
   rotate_left 6
   rotate_left
   have z1_ := trivial
   rotate_left
   have z2_ := trivial
   rotate_left
   have z3_ := trivial
   rotate_left
   have z4_ := trivial
   rotate_left
   have z5_ := trivial
   rotate_left
   have z5_ := trivial
   rotate_left
   all_goals
    go_wp2_with (first | (have zz_ := z1_; clear zz_; go_at_call 117; (with_reducible refine (spec_RouteOk.calls ((rd_T29 l0 x3_1).f0) ((rd_T29 l0 x3_1).f1) ((rd_T29 l0 x3_1).f2) ((rd_T29 l0 x3_1).f3) false _ A4.out).mono ?_); rintro e w8600 ⟨rfl, hb⟩; replace HB := mk_ (below_step (ub_ HB.out) hb)) | (have zz_ := z2_; clear zz_; go_at_call 117; (with_reducible refine (spec_RouteOk.calls ((rd_T29 l0 x3_1).f0) ((rd_T29 l0 x3_1).f1) ((rd_T29 l0 x3_1).f2) ((rd_T29 l0 x3_1).f3) true _ A4.out).mono ?_); rintro e w8600 ⟨rfl, hb⟩; replace HB := mk_ (below_step (ub_ HB.out) hb)) | (have zz_ := z3_; clear zz_; go_at_call 117; (with_reducible refine (spec_RouteOk.calls ((rd_T29 l0 x3_1).f0) ((rd_T29 l0 x3_1).f1) ((rd_T29 l0 x3_1).f2) ((rd_T29 l0 x3_1).f3) true _ A4.out).mono ?_); rintro e w8600 ⟨rfl, hb⟩; replace HB := mk_ (below_step (ub_ HB.out) hb); have p8601 : 0 ≤ ((ji7) : Int) := of_decide_eq_true (by first | (with_reducible assumption) | assumption); have q8601 : (ji7) < (l0.length : Int) := of_decide_eq_true (by first | (with_reducible assumption) | assumption); obtain ⟨ad8601, e8601, hx162_0, hx162_1, hx162_2, hx162_3⟩ := at_T29 HR0.out (ji7) p8601 q8601; obtain rfl : ad160 = ad8601 := (by injection e8601); replace hx162_0 := (HB.out.cell (lc_ w _ hx162_0)).trans hx162_0; replace hx162_1 := (HB.out.cell (lc_ w _ hx162_1)).trans hx162_1; replace hx162_2 := (HB.out.cell (lc_ w _ hx162_2)).trans hx162_2; replace hx162_3 := (HB.out.cell (lc_ w _ hx162_3)).trans hx162_3; replace p8601 := eq_true p8601; replace q8601 := eq_true q8601; have p8602 : 0 ≤ (x3_1 : Int) := of_decide_eq_true (by first | (with_reducible assumption) | assumption); have q8602 : x3_1 < (l0.length : Int) := of_decide_eq_true (by first | (with_reducible assumption) | assumption); obtain ⟨ad8602, e8602, hx163_0, hx163_1, hx163_2, hx163_3⟩ := at_T29 HR0.out x3_1 p8602 q8602; obtain rfl : ad160 = ad8602 := (by injection e8602); replace hx163_0 := (HB.out.cell (lc_ w _ hx163_0)).trans hx163_0; replace hx163_1 := (HB.out.cell (lc_ w _ hx163_1)).trans hx163_1; replace hx163_2 := (HB.out.cell (lc_ w _ hx163_2)).trans hx163_2; replace hx163_3 := (HB.out.cell (lc_ w _ hx163_3)).trans hx163_3; replace p8602 := eq_true p8602; replace q8602 := eq_true q8602) | (have zz_ := z4_; clear zz_; go_at_call 117; (with_reducible refine (spec_RouteOk.calls ((rd_T29 l0 x3_1).f0) ((rd_T29 l0 x3_1).f1) ((rd_T29 l0 x3_1).f2) ((rd_T29 l0 x3_1).f3) true _ A4.out).mono ?_); rintro e w8600 ⟨rfl, hb⟩; replace HB := mk_ (below_step (ub_ HB.out) hb); have p8601 : 0 ≤ ((ji7) : Int) := of_decide_eq_true (by first | (with_reducible assumption) | assumption); have q8601 : (ji7) < (l0.length : Int) := of_decide_eq_true (by first | (with_reducible assumption) | assumption); obtain ⟨ad8601, e8601, hx162_0, hx162_1, hx162_2, hx162_3⟩ := at_T29 HR0.out (ji7) p8601 q8601; obtain rfl : ad160 = ad8601 := (by injection e8601); replace hx162_0 := (HB.out.cell (lc_ w _ hx162_0)).trans hx162_0; replace hx162_1 := (HB.out.cell (lc_ w _ hx162_1)).trans hx162_1; replace hx162_2 := (HB.out.cell (lc_ w _ hx162_2)).trans hx162_2; replace hx162_3 := (HB.out.cell (lc_ w _ hx162_3)).trans hx162_3; replace p8601 := eq_true p8601; replace q8601 := eq_true q8601; have p8602 : 0 ≤ (x3_1 : Int) := of_decide_eq_true (by first | (with_reducible assumption) | assumption); have q8602 : x3_1 < (l0.length : Int) := of_decide_eq_true (by first | (with_reducible assumption) | assumption); obtain ⟨ad8602, e8602, hx163_0, hx163_1, hx163_2, hx163_3⟩ := at_T29 HR0.out x3_1 p8602 q8602; obtain rfl : ad160 = ad8602 := (by injection e8602); replace hx163_0 := (HB.out.cell (lc_ w _ hx163_0)).trans hx163_0; replace hx163_1 := (HB.out.cell (lc_ w _ hx163_1)).trans hx163_1; replace hx163_2 := (HB.out.cell (lc_ w _ hx163_2)).trans hx163_2; replace hx163_3 := (HB.out.cell (lc_ w _ hx163_3)).trans hx163_3; replace p8602 := eq_true p8602; replace q8602 := eq_true q8602; have p8603 : 0 ≤ ((ji7) : Int) := of_decide_eq_true (by first | (with_reducible assumption) | assumption); have q8603 : (ji7) < (l0.length : Int) := of_decide_eq_true (by first | (with_reducible assumption) | assumption); obtain ⟨ad8603, e8603, hx164_0, hx164_1, hx164_2, hx164_3⟩ := at_T29 HR0.out (ji7) p8603 q8603; obtain rfl : ad160 = ad8603 := (by injection e8603); replace hx164_0 := (HB.out.cell (lc_ w _ hx164_0)).trans hx164_0; replace hx164_1 := (HB.out.cell (lc_ w _ hx164_1)).trans hx164_1; replace hx164_2 := (HB.out.cell (lc_ w _ hx164_2)).trans hx164_2; replace hx164_3 := (HB.out.cell (lc_ w _ hx164_3)).trans hx164_3; replace p8603 := eq_true p8603; replace q8603 := eq_true q8603; have p8604 : 0 ≤ (x3_1 : Int) := of_decide_eq_true (by first | (with_reducible assumption) | assumption); have q8604 : x3_1 < (l0.length : Int) := of_decide_eq_true (by first | (with_reducible assumption) | assumption); obtain ⟨ad8604, e8604, hx165_0, hx165_1, hx165_2, hx165_3⟩ := at_T29 HR0.out x3_1 p8604 q8604; obtain rfl : ad160 = ad8604 := (by injection e8604); replace hx165_0 := (HB.out.cell (lc_ w _ hx165_0)).trans hx165_0; replace hx165_1 := (HB.out.cell (lc_ w _ hx165_1)).trans hx165_1; replace hx165_2 := (HB.out.cell (lc_ w _ hx165_2)).trans hx165_2; replace hx165_3 := (HB.out.cell (lc_ w _ hx165_3)).trans hx165_3; replace p8604 := eq_true p8604; replace q8604 := eq_true q8604) | (have zz_ := z5_; clear zz_; go_at_call 117; (with_reducible refine (spec_RouteOk.calls ((rd_T29 l0 x3_1).f0) ((rd_T29 l0 x3_1).f1) ((rd_T29 l0 x3_1).f2) ((rd_T29 l0 x3_1).f3) true _ A4.out).mono ?_); rintro e w8600 ⟨rfl, hb⟩; replace HB := mk_ (below_step (ub_ HB.out) hb); have p8601 : 0 ≤ ((ji7) : Int) := of_decide_eq_true (by first | (with_reducible assumption) | assumption); have q8601 : (ji7) < (l0.length : Int) := of_decide_eq_true (by first | (with_reducible assumption) | assumption); obtain ⟨ad8601, e8601, hx162_0, hx162_1, hx162_2, hx162_3⟩ := at_T29 HR0.out (ji7) p8601 q8601; obtain rfl : ad160 = ad8601 := (by injection e8601); replace hx162_0 := (HB.out.cell (lc_ w _ hx162_0)).trans hx162_0; replace hx162_1 := (HB.out.cell (lc_ w _ hx162_1)).trans hx162_1; replace hx162_2 := (HB.out.cell (lc_ w _ hx162_2)).trans hx162_2; replace hx162_3 := (HB.out.cell (lc_ w _ hx162_3)).trans hx162_3; replace p8601 := eq_true p8601; replace q8601 := eq_true q8601; have p8602 : 0 ≤ (x3_1 : Int) := of_decide_eq_true (by first | (with_reducible assumption) | assumption); have q8602 : x3_1 < (l0.length : Int) := of_decide_eq_true (by first | (with_reducible assumption) | assumption); obtain ⟨ad8602, e8602, hx163_0, hx163_1, hx163_2, hx163_3⟩ := at_T29 HR0.out x3_1 p8602 q8602; obtain rfl : ad160 = ad8602 := (by injection e8602); replace hx163_0 := (HB.out.cell (lc_ w _ hx163_0)).trans hx163_0; replace hx163_1 := (HB.out.cell (lc_ w _ hx163_1)).trans hx163_1; replace hx163_2 := (HB.out.cell (lc_ w _ hx163_2)).trans hx163_2; replace hx163_3 := (HB.out.cell (lc_ w _ hx163_3)).trans hx163_3; replace p8602 := eq_true p8602; replace q8602 := eq_true q8602; have p8603 : 0 ≤ ((ji7) : Int) := of_decide_eq_true (by first | (with_reducible assumption) | assumption); have q8603 : (ji7) < (l0.length : Int) := of_decide_eq_true (by first | (with_reducible assumption) | assumption); obtain ⟨ad8603, e8603, hx164_0, hx164_1, hx164_2, hx164_3⟩ := at_T29 HR0.out (ji7) p8603 q8603; obtain rfl : ad160 = ad8603 := (by injection e8603); replace hx164_0 := (HB.out.cell (lc_ w _ hx164_0)).trans hx164_0; replace hx164_1 := (HB.out.cell (lc_ w _ hx164_1)).trans hx164_1; replace hx164_2 := (HB.out.cell (lc_ w _ hx164_2)).trans hx164_2; replace hx164_3 := (HB.out.cell (lc_ w _ hx164_3)).trans hx164_3; replace p8603 := eq_true p8603; replace q8603 := eq_true q8603; have p8604 : 0 ≤ (x3_1 : Int) := of_decide_eq_true (by first | (with_reducible assumption) | assumption); have q8604 : x3_1 < (l0.length : Int) := of_decide_eq_true (by first | (with_reducible assumption) | assumption); obtain ⟨ad8604, e8604, hx165_0, hx165_1, hx165_2, hx165_3⟩ := at_T29 HR0.out x3_1 p8604 q8604; obtain rfl : ad160 = ad8604 := (by injection e8604); replace hx165_0 := (HB.out.cell (lc_ w _ hx165_0)).trans hx165_0; replace hx165_1 := (HB.out.cell (lc_ w _ hx165_1)).trans hx165_1; replace hx165_2 := (HB.out.cell (lc_ w _ hx165_2)).trans hx165_2; replace hx165_3 := (HB.out.cell (lc_ w _ hx165_3)).trans hx165_3; replace p8604 := eq_true p8604; replace q8604 := eq_true q8604; have p8605 : 0 ≤ ((ji7) : Int) := of_decide_eq_true (by first | (with_reducible assumption) | assumption); have q8605 : (ji7) < (l0.length : Int) := of_decide_eq_true (by first | (with_reducible assumption) | assumption); obtain ⟨ad8605, e8605, hx166_0, hx166_1, hx166_2, hx166_3⟩ := at_T29 HR0.out (ji7) p8605 q8605; obtain rfl : ad160 = ad8605 := (by injection e8605); replace hx166_0 := (HB.out.cell (lc_ w _ hx166_0)).trans hx166_0; replace hx166_1 := (HB.out.cell (lc_ w _ hx166_1)).trans hx166_1; replace hx166_2 := (HB.out.cell (lc_ w _ hx166_2)).trans hx166_2; replace hx166_3 := (HB.out.cell (lc_ w _ hx166_3)).trans hx166_3; replace p8605 := eq_true p8605; replace q8605 := eq_true q8605; have p8606 : 0 ≤ (x3_1 : Int) := of_decide_eq_true (by first | (with_reducible assumption) | assumption); have q8606 : x3_1 < (l0.length : Int) := of_decide_eq_true (by first | (with_reducible assumption) | assumption); obtain ⟨ad8606, e8606, hx167_0, hx167_1, hx167_2, hx167_3⟩ := at_T29 HR0.out x3_1 p8606 q8606; obtain rfl : ad160 = ad8606 := (by injection e8606); replace hx167_0 := (HB.out.cell (lc_ w _ hx167_0)).trans hx167_0; replace hx167_1 := (HB.out.cell (lc_ w _ hx167_1)).trans hx167_1; replace hx167_2 := (HB.out.cell (lc_ w _ hx167_2)).trans hx167_2; replace hx167_3 := (HB.out.cell (lc_ w _ hx167_3)).trans hx167_3; replace p8606 := eq_true p8606; replace q8606 := eq_true q8606))
   ·repeat (go_quiet (fail); try go_wp2)
    go_ret
    exact ⟨by first | rfl | (simp [errW_none, errW_some] <;> rfl) | (simp [*, errW_none, errW_some] <;> rfl), by repeat (first | (with_reducible first | exact HB.out | apply na_ | apply nn_ | apply nw_) | exact HB.out)⟩
   ·repeat (go_quiet (first | (go_at_call 117; (with_reducible refine (spec_RouteOk.calls ((rd_T29 l0 x3_1).f0) ((rd_T29 l0 x3_1).f1) ((rd_T29 l0 x3_1).f2) ((rd_T29 l0 x3_1).f3) false _ A4.out).mono ?_); rintro e w8600 ⟨rfl, hb⟩; replace HB := mk_ (below_step (ub_ HB.out) hb))); try go_wp2_with (first | (go_at_call 117; (with_reducible refine (spec_RouteOk.calls ((rd_T29 l0 x3_1).f0) ((rd_T29 l0 x3_1).f1) ((rd_T29 l0 x3_1).f2) ((rd_T29 l0 x3_1).f3) false _ A4.out).mono ?_); rintro e w8600 ⟨rfl, hb⟩; replace HB := mk_ (below_step (ub_ HB.out) hb))))
    go_ret
    exact ⟨by first | rfl | (simp [errW_none, errW_some] <;> rfl) | (simp [*, errW_none, errW_some] <;> rfl), by repeat (first | (with_reducible first | exact HB.out | apply na_ | apply nn_ | apply nw_) | exact HB.out)⟩
   ·repeat (go_quiet (first | (go_at_call 117; (with_reducible refine (spec_RouteOk.calls ((rd_T29 l0 x3_1).f0) ((rd_T29 l0 x3_1).f1) ((rd_T29 l0 x3_1).f2) ((rd_T29 l0 x3_1).f3) true _ A4.out).mono ?_); rintro e w8600 ⟨rfl, hb⟩; replace HB := mk_ (below_step (ub_ HB.out) hb))); try go_wp2_with (first | (go_at_call 117; (with_reducible refine (spec_RouteOk.calls ((rd_T29 l0 x3_1).f0) ((rd_T29 l0 x3_1).f1) ((rd_T29 l0 x3_1).f2) ((rd_T29 l0 x3_1).f3) true _ A4.out).mono ?_); rintro e w8600 ⟨rfl, hb⟩; replace HB := mk_ (below_step (ub_ HB.out) hb))))
    go_roundg k1
    case measure => have := HK1.out; omega
    case rel => exact ⟨(wrap64 (x3_1 + 1)), (by first | rfl | (simp; done) | (simp [*]; done)), H', ⟨by have := HK1.out; omega⟩, ⟨ub_ HB.out⟩⟩
   ·repeat (go_quiet (first | (go_at_call 117; (with_reducible refine (spec_RouteOk.calls ((rd_T29 l0 x3_1).f0) ((rd_T29 l0 x3_1).f1) ((rd_T29 l0 x3_1).f2) ((rd_T29 l0 x3_1).f3) true _ A4.out).mono ?_); rintro e w8600 ⟨rfl, hb⟩; replace HB := mk_ (below_step (ub_ HB.out) hb); have p8601 : 0 ≤ ((ji7) : Int) := of_decide_eq_true (by first | (with_reducible assumption) | assumption); have q8601 : (ji7) < (l0.length : Int) := of_decide_eq_true (by first | (with_reducible assumption) | assumption); obtain ⟨ad8601, e8601, hx162_0, hx162_1, hx162_2, hx162_3⟩ := at_T29 HR0.out (ji7) p8601 q8601; obtain rfl : ad160 = ad8601 := (by injection e8601); replace hx162_0 := (HB.out.cell (lc_ w _ hx162_0)).trans hx162_0; replace hx162_1 := (HB.out.cell (lc_ w _ hx162_1)).trans hx162_1; replace hx162_2 := (HB.out.cell (lc_ w _ hx162_2)).trans hx162_2; replace hx162_3 := (HB.out.cell (lc_ w _ hx162_3)).trans hx162_3; replace p8601 := eq_true p8601; replace q8601 := eq_true q8601; have p8602 : 0 ≤ (x3_1 : Int) := of_decide_eq_true (by first | (with_reducible assumption) | assumption); have q8602 : x3_1 < (l0.length : Int) := of_decide_eq_true (by first | (with_reducible assumption) | assumption); obtain ⟨ad8602, e8602, hx163_0, hx163_1, hx163_2, hx163_3⟩ := at_T29 HR0.out x3_1 p8602 q8602; obtain rfl : ad160 = ad8602 := (by injection e8602); replace hx163_0 := (HB.out.cell (lc_ w _ hx163_0)).trans hx163_0; replace hx163_1 := (HB.out.cell (lc_ w _ hx163_1)).trans hx163_1; replace hx163_2 := (HB.out.cell (lc_ w _ hx163_2)).trans hx163_2; replace hx163_3 := (HB.out.cell (lc_ w _ hx163_3)).trans hx163_3; replace p8602 := eq_true p8602; replace q8602 := eq_true q8602)); try go_wp2_with (first | (go_at_call 117; (with_reducible refine (spec_RouteOk.calls ((rd_T29 l0 x3_1).f0) ((rd_T29 l0 x3_1).f1) ((rd_T29 l0 x3_1).f2) ((rd_T29 l0 x3_1).f3) true _ A4.out).mono ?_); rintro e w8600 ⟨rfl, hb⟩; replace HB := mk_ (below_step (ub_ HB.out) hb); have p8601 : 0 ≤ ((ji7) : Int) := of_decide_eq_true (by first | (with_reducible assumption) | assumption); have q8601 : (ji7) < (l0.length : Int) := of_decide_eq_true (by first | (with_reducible assumption) | assumption); obtain ⟨ad8601, e8601, hx162_0, hx162_1, hx162_2, hx162_3⟩ := at_T29 HR0.out (ji7) p8601 q8601; obtain rfl : ad160 = ad8601 := (by injection e8601); replace hx162_0 := (HB.out.cell (lc_ w _ hx162_0)).trans hx162_0; replace hx162_1 := (HB.out.cell (lc_ w _ hx162_1)).trans hx162_1; replace hx162_2 := (HB.out.cell (lc_ w _ hx162_2)).trans hx162_2; replace hx162_3 := (HB.out.cell (lc_ w _ hx162_3)).trans hx162_3; replace p8601 := eq_true p8601; replace q8601 := eq_true q8601; have p8602 : 0 ≤ (x3_1 : Int) := of_decide_eq_true (by first | (with_reducible assumption) | assumption); have q8602 : x3_1 < (l0.length : Int) := of_decide_eq_true (by first | (with_reducible assumption) | assumption); obtain ⟨ad8602, e8602, hx163_0, hx163_1, hx163_2, hx163_3⟩ := at_T29 HR0.out x3_1 p8602 q8602; obtain rfl : ad160 = ad8602 := (by injection e8602); replace hx163_0 := (HB.out.cell (lc_ w _ hx163_0)).trans hx163_0; replace hx163_1 := (HB.out.cell (lc_ w _ hx163_1)).trans hx163_1; replace hx163_2 := (HB.out.cell (lc_ w _ hx163_2)).trans hx163_2; replace hx163_3 := (HB.out.cell (lc_ w _ hx163_3)).trans hx163_3; replace p8602 := eq_true p8602; replace q8602 := eq_true q8602)))
    go_ret
    exact ⟨by first | rfl | (simp [errW_none, errW_some] <;> rfl) | (simp only [← hji7]; first | rfl | (simp [errW_none, errW_some] <;> rfl)) | (simp [*, errW_none, errW_some] <;> rfl), by repeat (first | (with_reducible first | exact HB.out | apply na_ | apply nn_ | apply nw_) | exact HB.out)⟩
   ·repeat (go_quiet (first | (go_at_call 117; (with_reducible refine (spec_RouteOk.calls ((rd_T29 l0 x3_1).f0) ((rd_T29 l0 x3_1).f1) ((rd_T29 l0 x3_1).f2) ((rd_T29 l0 x3_1).f3) true _ A4.out).mono ?_); rintro e w8600 ⟨rfl, hb⟩; replace HB := mk_ (below_step (ub_ HB.out) hb); have p8601 : 0 ≤ ((ji7) : Int) := of_decide_eq_true (by first | (with_reducible assumption) | assumption); have q8601 : (ji7) < (l0.length : Int) := of_decide_eq_true (by first | (with_reducible assumption) | assumption); obtain ⟨ad8601, e8601, hx162_0, hx162_1, hx162_2, hx162_3⟩ := at_T29 HR0.out (ji7) p8601 q8601; obtain rfl : ad160 = ad8601 := (by injection e8601); replace hx162_0 := (HB.out.cell (lc_ w _ hx162_0)).trans hx162_0; replace hx162_1 := (HB.out.cell (lc_ w _ hx162_1)).trans hx162_1; replace hx162_2 := (HB.out.cell (lc_ w _ hx162_2)).trans hx162_2; replace hx162_3 := (HB.out.cell (lc_ w _ hx162_3)).trans hx162_3; replace p8601 := eq_true p8601; replace q8601 := eq_true q8601; have p8602 : 0 ≤ (x3_1 : Int) := of_decide_eq_true (by first | (with_reducible assumption) | assumption); have q8602 : x3_1 < (l0.length : Int) := of_decide_eq_true (by first | (with_reducible assumption) | assumption); obtain ⟨ad8602, e8602, hx163_0, hx163_1, hx163_2, hx163_3⟩ := at_T29 HR0.out x3_1 p8602 q8602; obtain rfl : ad160 = ad8602 := (by injection e8602); replace hx163_0 := (HB.out.cell (lc_ w _ hx163_0)).trans hx163_0; replace hx163_1 := (HB.out.cell (lc_ w _ hx163_1)).trans hx163_1; replace hx163_2 := (HB.out.cell (lc_ w _ hx163_2)).trans hx163_2; replace hx163_3 := (HB.out.cell (lc_ w _ hx163_3)).trans hx163_3; replace p8602 := eq_true p8602; replace q8602 := eq_true q8602; have p8603 : 0 ≤ ((ji7) : Int) := of_decide_eq_true (by first | (with_reducible assumption) | assumption); have q8603 : (ji7) < (l0.length : Int) := of_decide_eq_true (by first | (with_reducible assumption) | assumption); obtain ⟨ad8603, e8603, hx164_0, hx164_1, hx164_2, hx164_3⟩ := at_T29 HR0.out (ji7) p8603 q8603; obtain rfl : ad160 = ad8603 := (by injection e8603); replace hx164_0 := (HB.out.cell (lc_ w _ hx164_0)).trans hx164_0; replace hx164_1 := (HB.out.cell (lc_ w _ hx164_1)).trans hx164_1; replace hx164_2 := (HB.out.cell (lc_ w _ hx164_2)).trans hx164_2; replace hx164_3 := (HB.out.cell (lc_ w _ hx164_3)).trans hx164_3; replace p8603 := eq_true p8603; replace q8603 := eq_true q8603; have p8604 : 0 ≤ (x3_1 : Int) := of_decide_eq_true (by first | (with_reducible assumption) | assumption); have q8604 : x3_1 < (l0.length : Int) := of_decide_eq_true (by first | (with_reducible assumption) | assumption); obtain ⟨ad8604, e8604, hx165_0, hx165_1, hx165_2, hx165_3⟩ := at_T29 HR0.out x3_1 p8604 q8604; obtain rfl : ad160 = ad8604 := (by injection e8604); replace hx165_0 := (HB.out.cell (lc_ w _ hx165_0)).trans hx165_0; replace hx165_1 := (HB.out.cell (lc_ w _ hx165_1)).trans hx165_1; replace hx165_2 := (HB.out.cell (lc_ w _ hx165_2)).trans hx165_2; replace hx165_3 := (HB.out.cell (lc_ w _ hx165_3)).trans hx165_3; replace p8604 := eq_true p8604; replace q8604 := eq_true q8604)); try go_wp2_with (first | (go_at_call 117; (with_reducible refine (spec_RouteOk.calls ((rd_T29 l0 x3_1).f0) ((rd_T29 l0 x3_1).f1) ((rd_T29 l0 x3_1).f2) ((rd_T29 l0 x3_1).f3) true _ A4.out).mono ?_); rintro e w8600 ⟨rfl, hb⟩; replace HB := mk_ (below_step (ub_ HB.out) hb); have p8601 : 0 ≤ ((ji7) : Int) := of_decide_eq_true (by first | (with_reducible assumption) | assumption); have q8601 : (ji7) < (l0.length : Int) := of_decide_eq_true (by first | (with_reducible assumption) | assumption); obtain ⟨ad8601, e8601, hx162_0, hx162_1, hx162_2, hx162_3⟩ := at_T29 HR0.out (ji7) p8601 q8601; obtain rfl : ad160 = ad8601 := (by injection e8601); replace hx162_0 := (HB.out.cell (lc_ w _ hx162_0)).trans hx162_0; replace hx162_1 := (HB.out.cell (lc_ w _ hx162_1)).trans hx162_1; replace hx162_2 := (HB.out.cell (lc_ w _ hx162_2)).trans hx162_2; replace hx162_3 := (HB.out.cell (lc_ w _ hx162_3)).trans hx162_3; replace p8601 := eq_true p8601; replace q8601 := eq_true q8601; have p8602 : 0 ≤ (x3_1 : Int) := of_decide_eq_true (by first | (with_reducible assumption) | assumption); have q8602 : x3_1 < (l0.length : Int) := of_decide_eq_true (by first | (with_reducible assumption) | assumption); obtain ⟨ad8602, e8602, hx163_0, hx163_1, hx163_2, hx163_3⟩ := at_T29 HR0.out x3_1 p8602 q8602; obtain rfl : ad160 = ad8602 := (by injection e8602); replace hx163_0 := (HB.out.cell (lc_ w _ hx163_0)).trans hx163_0; replace hx163_1 := (HB.out.cell (lc_ w _ hx163_1)).trans hx163_1; replace hx163_2 := (HB.out.cell (lc_ w _ hx163_2)).trans hx163_2; replace hx163_3 := (HB.out.cell (lc_ w _ hx163_3)).trans hx163_3; replace p8602 := eq_true p8602; replace q8602 := eq_true q8602; have p8603 : 0 ≤ ((ji7) : Int) := of_decide_eq_true (by first | (with_reducible assumption) | assumption); have q8603 : (ji7) < (l0.length : Int) := of_decide_eq_true (by first | (with_reducible assumption) | assumption); obtain ⟨ad8603, e8603, hx164_0, hx164_1, hx164_2, hx164_3⟩ := at_T29 HR0.out (ji7) p8603 q8603; obtain rfl : ad160 = ad8603 := (by injection e8603); replace hx164_0 := (HB.out.cell (lc_ w _ hx164_0)).trans hx164_0; replace hx164_1 := (HB.out.cell (lc_ w _ hx164_1)).trans hx164_1; replace hx164_2 := (HB.out.cell (lc_ w _ hx164_2)).trans hx164_2; replace hx164_3 := (HB.out.cell (lc_ w _ hx164_3)).trans hx164_3; replace p8603 := eq_true p8603; replace q8603 := eq_true q8603; have p8604 : 0 ≤ (x3_1 : Int) := of_decide_eq_true (by first | (with_reducible assumption) | assumption); have q8604 : x3_1 < (l0.length : Int) := of_decide_eq_true (by first | (with_reducible assumption) | assumption); obtain ⟨ad8604, e8604, hx165_0, hx165_1, hx165_2, hx165_3⟩ := at_T29 HR0.out x3_1 p8604 q8604; obtain rfl : ad160 = ad8604 := (by injection e8604); replace hx165_0 := (HB.out.cell (lc_ w _ hx165_0)).trans hx165_0; replace hx165_1 := (HB.out.cell (lc_ w _ hx165_1)).trans hx165_1; replace hx165_2 := (HB.out.cell (lc_ w _ hx165_2)).trans hx165_2; replace hx165_3 := (HB.out.cell (lc_ w _ hx165_3)).trans hx165_3; replace p8604 := eq_true p8604; replace q8604 := eq_true q8604)))
    go_roundg k1
    case measure => have := HK1.out; omega
    case rel => exact ⟨(wrap64 (x3_1 + 1)), (by first | rfl | (simp; done) | (simp [*]; done)), H', ⟨by have := HK1.out; omega⟩, ⟨ub_ HB.out⟩⟩
   all_goals
    repeat (go_quiet (first | (go_at_call 117; (with_reducible refine (spec_RouteOk.calls ((rd_T29 l0 x3_1).f0) ((rd_T29 l0 x3_1).f1) ((rd_T29 l0 x3_1).f2) ((rd_T29 l0 x3_1).f3) true _ A4.out).mono ?_); rintro e w8600 ⟨rfl, hb⟩; replace HB := mk_ (below_step (ub_ HB.out) hb); have p8601 : 0 ≤ ((ji7) : Int) := of_decide_eq_true (by first | (with_reducible assumption) | assumption); have q8601 : (ji7) < (l0.length : Int) := of_decide_eq_true (by first | (with_reducible assumption) | assumption); obtain ⟨ad8601, e8601, hx162_0, hx162_1, hx162_2, hx162_3⟩ := at_T29 HR0.out (ji7) p8601 q8601; obtain rfl : ad160 = ad8601 := (by injection e8601); replace hx162_0 := (HB.out.cell (lc_ w _ hx162_0)).trans hx162_0; replace hx162_1 := (HB.out.cell (lc_ w _ hx162_1)).trans hx162_1; replace hx162_2 := (HB.out.cell (lc_ w _ hx162_2)).trans hx162_2; replace hx162_3 := (HB.out.cell (lc_ w _ hx162_3)).trans hx162_3; replace p8601 := eq_true p8601; replace q8601 := eq_true q8601; have p8602 : 0 ≤ (x3_1 : Int) := of_decide_eq_true (by first | (with_reducible assumption) | assumption); have q8602 : x3_1 < (l0.length : Int) := of_decide_eq_true (by first | (with_reducible assumption) | assumption); obtain ⟨ad8602, e8602, hx163_0, hx163_1, hx163_2, hx163_3⟩ := at_T29 HR0.out x3_1 p8602 q8602; obtain rfl : ad160 = ad8602 := (by injection e8602); replace hx163_0 := (HB.out.cell (lc_ w _ hx163_0)).trans hx163_0; replace hx163_1 := (HB.out.cell (lc_ w _ hx163_1)).trans hx163_1; replace hx163_2 := (HB.out.cell (lc_ w _ hx163_2)).trans hx163_2; replace hx163_3 := (HB.out.cell (lc_ w _ hx163_3)).trans hx163_3; replace p8602 := eq_true p8602; replace q8602 := eq_true q8602; have p8603 : 0 ≤ ((ji7) : Int) := of_decide_eq_true (by first | (with_reducible assumption) | assumption); have q8603 : (ji7) < (l0.length : Int) := of_decide_eq_true (by first | (with_reducible assumption) | assumption); obtain ⟨ad8603, e8603, hx164_0, hx164_1, hx164_2, hx164_3⟩ := at_T29 HR0.out (ji7) p8603 q8603; obtain rfl : ad160 = ad8603 := (by injection e8603); replace hx164_0 := (HB.out.cell (lc_ w _ hx164_0)).trans hx164_0; replace hx164_1 := (HB.out.cell (lc_ w _ hx164_1)).trans hx164_1; replace hx164_2 := (HB.out.cell (lc_ w _ hx164_2)).trans hx164_2; replace hx164_3 := (HB.out.cell (lc_ w _ hx164_3)).trans hx164_3; replace p8603 := eq_true p8603; replace q8603 := eq_true q8603; have p8604 : 0 ≤ (x3_1 : Int) := of_decide_eq_true (by first | (with_reducible assumption) | assumption); have q8604 : x3_1 < (l0.length : Int) := of_decide_eq_true (by first | (with_reducible assumption) | assumption); obtain ⟨ad8604, e8604, hx165_0, hx165_1, hx165_2, hx165_3⟩ := at_T29 HR0.out x3_1 p8604 q8604; obtain rfl : ad160 = ad8604 := (by injection e8604); replace hx165_0 := (HB.out.cell (lc_ w _ hx165_0)).trans hx165_0; replace hx165_1 := (HB.out.cell (lc_ w _ hx165_1)).trans hx165_1; replace hx165_2 := (HB.out.cell (lc_ w _ hx165_2)).trans hx165_2; replace hx165_3 := (HB.out.cell (lc_ w _ hx165_3)).trans hx165_3; replace p8604 := eq_true p8604; replace q8604 := eq_true q8604; have p8605 : 0 ≤ ((ji7) : Int) := of_decide_eq_true (by first | (with_reducible assumption) | assumption); have q8605 : (ji7) < (l0.length : Int) := of_decide_eq_true (by first | (with_reducible assumption) | assumption); obtain ⟨ad8605, e8605, hx166_0, hx166_1, hx166_2, hx166_3⟩ := at_T29 HR0.out (ji7) p8605 q8605; obtain rfl : ad160 = ad8605 := (by injection e8605); replace hx166_0 := (HB.out.cell (lc_ w _ hx166_0)).trans hx166_0; replace hx166_1 := (HB.out.cell (lc_ w _ hx166_1)).trans hx166_1; replace hx166_2 := (HB.out.cell (lc_ w _ hx166_2)).trans hx166_2; replace hx166_3 := (HB.out.cell (lc_ w _ hx166_3)).trans hx166_3; replace p8605 := eq_true p8605; replace q8605 := eq_true q8605; have p8606 : 0 ≤ (x3_1 : Int) := of_decide_eq_true (by first | (with_reducible assumption) | assumption); have q8606 : x3_1 < (l0.length : Int) := of_decide_eq_true (by first | (with_reducible assumption) | assumption); obtain ⟨ad8606, e8606, hx167_0, hx167_1, hx167_2, hx167_3⟩ := at_T29 HR0.out x3_1 p8606 q8606; obtain rfl : ad160 = ad8606 := (by injection e8606); replace hx167_0 := (HB.out.cell (lc_ w _ hx167_0)).trans hx167_0; replace hx167_1 := (HB.out.cell (lc_ w _ hx167_1)).trans hx167_1; replace hx167_2 := (HB.out.cell (lc_ w _ hx167_2)).trans hx167_2; replace hx167_3 := (HB.out.cell (lc_ w _ hx167_3)).trans hx167_3; replace p8606 := eq_true p8606; replace q8606 := eq_true q8606)); try go_wp2_with (first | (go_at_call 117; (with_reducible refine (spec_RouteOk.calls ((rd_T29 l0 x3_1).f0) ((rd_T29 l0 x3_1).f1) ((rd_T29 l0 x3_1).f2) ((rd_T29 l0 x3_1).f3) true _ A4.out).mono ?_); rintro e w8600 ⟨rfl, hb⟩; replace HB := mk_ (below_step (ub_ HB.out) hb); have p8601 : 0 ≤ ((ji7) : Int) := of_decide_eq_true (by first | (with_reducible assumption) | assumption); have q8601 : (ji7) < (l0.length : Int) := of_decide_eq_true (by first | (with_reducible assumption) | assumption); obtain ⟨ad8601, e8601, hx162_0, hx162_1, hx162_2, hx162_3⟩ := at_T29 HR0.out (ji7) p8601 q8601; obtain rfl : ad160 = ad8601 := (by injection e8601); replace hx162_0 := (HB.out.cell (lc_ w _ hx162_0)).trans hx162_0; replace hx162_1 := (HB.out.cell (lc_ w _ hx162_1)).trans hx162_1; replace hx162_2 := (HB.out.cell (lc_ w _ hx162_2)).trans hx162_2; replace hx162_3 := (HB.out.cell (lc_ w _ hx162_3)).trans hx162_3; replace p8601 := eq_true p8601; replace q8601 := eq_true q8601; have p8602 : 0 ≤ (x3_1 : Int) := of_decide_eq_true (by first | (with_reducible assumption) | assumption); have q8602 : x3_1 < (l0.length : Int) := of_decide_eq_true (by first | (with_reducible assumption) | assumption); obtain ⟨ad8602, e8602, hx163_0, hx163_1, hx163_2, hx163_3⟩ := at_T29 HR0.out x3_1 p8602 q8602; obtain rfl : ad160 = ad8602 := (by injection e8602); replace hx163_0 := (HB.out.cell (lc_ w _ hx163_0)).trans hx163_0; replace hx163_1 := (HB.out.cell (lc_ w _ hx163_1)).trans hx163_1; replace hx163_2 := (HB.out.cell (lc_ w _ hx163_2)).trans hx163_2; replace hx163_3 := (HB.out.cell (lc_ w _ hx163_3)).trans hx163_3; replace p8602 := eq_true p8602; replace q8602 := eq_true q8602; have p8603 : 0 ≤ ((ji7) : Int) := of_decide_eq_true (by first | (with_reducible assumption) | assumption); have q8603 : (ji7) < (l0.length : Int) := of_decide_eq_true (by first | (with_reducible assumption) | assumption); obtain ⟨ad8603, e8603, hx164_0, hx164_1, hx164_2, hx164_3⟩ := at_T29 HR0.out (ji7) p8603 q8603; obtain rfl : ad160 = ad8603 := (by injection e8603); replace hx164_0 := (HB.out.cell (lc_ w _ hx164_0)).trans hx164_0; replace hx164_1 := (HB.out.cell (lc_ w _ hx164_1)).trans hx164_1; replace hx164_2 := (HB.out.cell (lc_ w _ hx164_2)).trans hx164_2; replace hx164_3 := (HB.out.cell (lc_ w _ hx164_3)).trans hx164_3; replace p8603 := eq_true p8603; replace q8603 := eq_true q8603; have p8604 : 0 ≤ (x3_1 : Int) := of_decide_eq_true (by first | (with_reducible assumption) | assumption); have q8604 : x3_1 < (l0.length : Int) := of_decide_eq_true (by first | (with_reducible assumption) | assumption); obtain ⟨ad8604, e8604, hx165_0, hx165_1, hx165_2, hx165_3⟩ := at_T29 HR0.out x3_1 p8604 q8604; obtain rfl : ad160 = ad8604 := (by injection e8604); replace hx165_0 := (HB.out.cell (lc_ w _ hx165_0)).trans hx165_0; replace hx165_1 := (HB.out.cell (lc_ w _ hx165_1)).trans hx165_1; replace hx165_2 := (HB.out.cell (lc_ w _ hx165_2)).trans hx165_2; replace hx165_3 := (HB.out.cell (lc_ w _ hx165_3)).trans hx165_3; replace p8604 := eq_true p8604; replace q8604 := eq_true q8604; have p8605 : 0 ≤ ((ji7) : Int) := of_decide_eq_true (by first | (with_reducible assumption) | assumption); have q8605 : (ji7) < (l0.length : Int) := of_decide_eq_true (by first | (with_reducible assumption) | assumption); obtain ⟨ad8605, e8605, hx166_0, hx166_1, hx166_2, hx166_3⟩ := at_T29 HR0.out (ji7) p8605 q8605; obtain rfl : ad160 = ad8605 := (by injection e8605); replace hx166_0 := (HB.out.cell (lc_ w _ hx166_0)).trans hx166_0; replace hx166_1 := (HB.out.cell (lc_ w _ hx166_1)).trans hx166_1; replace hx166_2 := (HB.out.cell (lc_ w _ hx166_2)).trans hx166_2; replace hx166_3 := (HB.out.cell (lc_ w _ hx166_3)).trans hx166_3; replace p8605 := eq_true p8605; replace q8605 := eq_true q8605; have p8606 : 0 ≤ (x3_1 : Int) := of_decide_eq_true (by first | (with_reducible assumption) | assumption); have q8606 : x3_1 < (l0.length : Int) := of_decide_eq_true (by first | (with_reducible assumption) | assumption); obtain ⟨ad8606, e8606, hx167_0, hx167_1, hx167_2, hx167_3⟩ := at_T29 HR0.out x3_1 p8606 q8606; obtain rfl : ad160 = ad8606 := (by injection e8606); replace hx167_0 := (HB.out.cell (lc_ w _ hx167_0)).trans hx167_0; replace hx167_1 := (HB.out.cell (lc_ w _ hx167_1)).trans hx167_1; replace hx167_2 := (HB.out.cell (lc_ w _ hx167_2)).trans hx167_2; replace hx167_3 := (HB.out.cell (lc_ w _ hx167_3)).trans hx167_3; replace p8606 := eq_true p8606; replace q8606 := eq_true q8606)))
   ·go_ret
    exact ⟨by first | rfl | (simp [errW_none, errW_some] <;> rfl) | (simp only [← hji7]; first | rfl | (simp [errW_none, errW_some] <;> rfl)) | (simp [*, errW_none, errW_some] <;> rfl), by repeat (first | (with_reducible first | exact HB.out | apply na_ | apply nn_ | apply nw_) | exact HB.out)⟩
   ·go_roundg k1
    case measure => have := HK1.out; omega
    case rel => exact ⟨(wrap64 (x3_1 + 1)), (by first | rfl | (simp; done) | (simp [*]; done)), H', ⟨by have := HK1.out; omega⟩, ⟨ub_ HB.out⟩⟩

end Go.Proofs.Ytkkibccnpkbbjab.MFnRouteDrop
