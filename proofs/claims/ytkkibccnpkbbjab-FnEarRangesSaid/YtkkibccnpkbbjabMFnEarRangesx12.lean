/- Functions that the law FnEarRanges reaches, each with the proof that the machine's call comes to just its answer; no conditions but those that each theorem states. Printed by a program of this session over the kit's print. -/
import Derived.Test.YtkkibccnpkbbjabMFnEarRangesx0
import Derived.Test.YtkkibccnpkbbjabMFnEarRangesx2
import Derived.Test.YtkkibccnpkbbjabMFnEarRangesx3
import Derived.Test.YtkkibccnpkbbjabMFnEarRangesx10
import Derived.Test.YtkkibccnpkbbjabMFnEarRangesx11
namespace Go.Proofs.Ytkkibccnpkbbjab.MFnEarRanges
open Go.RowKit Go.Proofs.YtkkibccnpkbbjabV.PrintWords Go.Proofs.YtkkibccnpkbbjabV.PrintLast Go.Proofs.YtkkibccnpkbbjabV.PrintMore
attribute [local go_sem] max2_int min2_int max_two min_two max_three min_three max_four min_four   -- for this text's walks alone
set_option linter.unusedVariables false
set_option linter.unusedSimpArgs false

/-! ### laws_FnEarRanges: function 8 -/
mutual
def laws_FnEarRanges.l0 : Nat → List (S66) → Int → Int → Int → List Int → List (S68) → Option (Bool)
 | 0, _, _, _, _, _, _ => none
 | k + 1, x4, x5, x356000, x356001, x356002, x356003 => if x5 < (x4.length : Int) then (if 0 ≤ x5 then (if ((rd_T66 x4 x5).f0) ≤ x356000 then (laws_FnEarRanges.j1 k x4 x5 true x356000 x356001 x356002 x356003) else (if x5 > 0 then (if 0 ≤ (wrap64 (x5 - 1)) then (if (wrap64 (x5 - 1)) < (x4.length : Int) then (laws_FnEarRanges.j1 k x4 x5 (decide (((rd_T66 x4 (wrap64 (x5 - 1))).f1) ≥ ((rd_T66 x4 x5).f0))) x356000 x356001 x356002 x356003) else (none)) else (none)) else (laws_FnEarRanges.j1 k x4 x5 false x356000 x356001 x356002 x356003))) else (none)) else (if ((decide ((x4.length : Int) > 0)) == (decide ((x356003.length : Int) > 0))) = true then (if (x4.length : Int) ≤ 2 then ((laws_alive.f k).bind fun t365 => (some t365)) else (some false)) else (some false))
def laws_FnEarRanges.j1 : Nat → List (S66) → Int → Bool → Int → Int → List Int → List (S68) → Option (Bool)
 | 0, _, _, _, _, _, _, _ => none
 | k + 1, x4, x5, x61, x356000, x356001, x356002, x356003 => if x61 = true then (some false) else (if 0 ≤ x5 then (if x5 < (x4.length : Int) then (laws_FnEarRanges.l1 k x4 x5 ((rd_T66 x4 x5).f0) x356000 x356001 x356002 x356003) else (none)) else (none))
def laws_FnEarRanges.l1 : Nat → List (S66) → Int → Int → Int → Int → List Int → List (S68) → Option (Bool)
 | 0, _, _, _, _, _, _, _ => none
 | k + 1, x4, x5, x6, x356000, x356001, x356002, x356003 => if 0 ≤ x5 then (if x5 < (x4.length : Int) then (if x6 < ((rd_T66 x4 x5).f1) then (laws_FnEarRanges.l2 k x4 x5 x6 false 0 x356000 x356001 x356002 x356003) else (laws_FnEarRanges.l0 k x4 (wrap64 (x5 + 1)) x356000 x356001 x356002 x356003)) else (none)) else (none)
def laws_FnEarRanges.l2 : Nat → List (S66) → Int → Int → Bool → Int → Int → Int → List Int → List (S68) → Option (Bool)
 | 0, _, _, _, _, _, _, _, _, _ => none
 | k + 1, x4, x5, x6, x7, x8, x356000, x356001, x356002, x356003 => if x8 < (x356003.length : Int) then (if x7 = true then (laws_FnEarRanges.l2 k x4 x5 x6 true (wrap64 (x8 + 1)) x356000 x356001 x356002 x356003) else (if 0 ≤ x8 then (laws_FnEarRanges.l2 k x4 x5 x6 (((rd_T68 x356003 x8).f0) == x6) (wrap64 (x8 + 1)) x356000 x356001 x356002 x356003) else (none))) else (if x7 = true then (laws_FnEarRanges.l1 k x4 x5 (wrap64 (x6 + 1)) x356000 x356001 x356002 x356003) else (some false))
end
def laws_FnEarRanges.f (k : Nat) (l0 : List Int) : Option (Bool) := if (l0.length : Int) > 1048576 then (some true) else ((spec_DrawEarRanges.f k l0).bind fun bt347 => ((impl_EarRanges.f k bt347.1 bt347.2.1 bt347.2.2.1 bt347.2.2.2).bind fun t356 => ((spec_EarRanges.f k bt347.1 bt347.2.1 bt347.2.2.1 bt347.2.2.2).bind fun t359 => ((laws_sameRanges.f k t356 t359).bind fun t362 => (if t362 = true then ((impl_EarOk.f k bt347.1 bt347.2.1 bt347.2.2.1 bt347.2.2.2).bind fun t363 => (if t363 = true then (laws_FnEarRanges.l0 k t356 0 bt347.1 bt347.2.1 bt347.2.2.1 bt347.2.2.2) else (if (t356.length : Int) = 0 then ((laws_alive.f k).bind fun t364 => (some t364)) else (some false)))) else (some false))))))
theorem laws_FnEarRanges.mono_l : ∀ k, (∀ y0 y1 y2 y3 y4 y5, LeO (laws_FnEarRanges.l0 k y0 y1 y2 y3 y4 y5) (laws_FnEarRanges.l0 (k + 1) y0 y1 y2 y3 y4 y5)) ∧ (∀ y0 y1 y2 y3 y4 y5 y6, LeO (laws_FnEarRanges.j1 k y0 y1 y2 y3 y4 y5 y6) (laws_FnEarRanges.j1 (k + 1) y0 y1 y2 y3 y4 y5 y6)) ∧ (∀ y0 y1 y2 y3 y4 y5 y6, LeO (laws_FnEarRanges.l1 k y0 y1 y2 y3 y4 y5 y6) (laws_FnEarRanges.l1 (k + 1) y0 y1 y2 y3 y4 y5 y6)) ∧ (∀ y0 y1 y2 y3 y4 y5 y6 y7 y8, LeO (laws_FnEarRanges.l2 k y0 y1 y2 y3 y4 y5 y6 y7 y8) (laws_FnEarRanges.l2 (k + 1) y0 y1 y2 y3 y4 y5 y6 y7 y8))
 | 0 => ⟨fun _ _ _ _ _ _ r h => by simp [laws_FnEarRanges.l0] at h, fun _ _ _ _ _ _ _ r h => by simp [laws_FnEarRanges.j1] at h, fun _ _ _ _ _ _ _ r h => by simp [laws_FnEarRanges.l1] at h, fun _ _ _ _ _ _ _ _ _ r h => by simp [laws_FnEarRanges.l2] at h⟩
 | k + 1 => by
  obtain ⟨ih0, ih1, ih2, ih3⟩ := laws_FnEarRanges.mono_l k
  refine ⟨?_, ?_, ?_, ?_⟩
  ·intro y0 y1 y2 y3 y4 y5
   unfold laws_FnEarRanges.l0
   repeat' first
   | (with_reducible exact ih0 _ _ _ _ _ _)
   | (with_reducible exact ih1 _ _ _ _ _ _ _)
   | (with_reducible exact ih2 _ _ _ _ _ _ _)
   | (with_reducible exact ih3 _ _ _ _ _ _ _ _ _)
   | (with_reducible exact impl_EarOk.mono _ _ _ _ _)
   | (with_reducible exact impl_EarRanges.mono _ _ _ _ _)
   | (with_reducible exact laws_alive.mono _)
   | (with_reducible exact laws_sameRanges.mono _ _ _)
   | (with_reducible exact spec_DrawEarRanges.mono _ _)
   | (with_reducible exact spec_EarRanges.mono _ _ _ _ _)
   | (with_reducible exact LeO.refl _)
   | (with_reducible exact LeO.none _)
   | (with_reducible refine LeO.ite ?_ ?_)
   | (with_reducible refine LeO.bind ?_ (fun _ => ?_))
   | exact ih0 _ _ _ _ _ _
   | exact ih1 _ _ _ _ _ _ _
   | exact ih2 _ _ _ _ _ _ _
   | exact ih3 _ _ _ _ _ _ _ _ _
   | exact impl_EarOk.mono _ _ _ _ _
   | exact impl_EarRanges.mono _ _ _ _ _
   | exact laws_alive.mono _
   | exact laws_sameRanges.mono _ _ _
   | exact spec_DrawEarRanges.mono _ _
   | exact spec_EarRanges.mono _ _ _ _ _
   | exact LeO.none _
   | refine LeO.ite ?_ ?_
   | refine LeO.bind ?_ (fun _ => ?_)
  ·intro y0 y1 y2 y3 y4 y5 y6
   unfold laws_FnEarRanges.j1
   repeat' first
   | (with_reducible exact ih0 _ _ _ _ _ _)
   | (with_reducible exact ih1 _ _ _ _ _ _ _)
   | (with_reducible exact ih2 _ _ _ _ _ _ _)
   | (with_reducible exact ih3 _ _ _ _ _ _ _ _ _)
   | (with_reducible exact impl_EarOk.mono _ _ _ _ _)
   | (with_reducible exact impl_EarRanges.mono _ _ _ _ _)
   | (with_reducible exact laws_alive.mono _)
   | (with_reducible exact laws_sameRanges.mono _ _ _)
   | (with_reducible exact spec_DrawEarRanges.mono _ _)
   | (with_reducible exact spec_EarRanges.mono _ _ _ _ _)
   | (with_reducible exact LeO.refl _)
   | (with_reducible exact LeO.none _)
   | (with_reducible refine LeO.ite ?_ ?_)
   | (with_reducible refine LeO.bind ?_ (fun _ => ?_))
   | exact ih0 _ _ _ _ _ _
   | exact ih1 _ _ _ _ _ _ _
   | exact ih2 _ _ _ _ _ _ _
   | exact ih3 _ _ _ _ _ _ _ _ _
   | exact impl_EarOk.mono _ _ _ _ _
   | exact impl_EarRanges.mono _ _ _ _ _
   | exact laws_alive.mono _
   | exact laws_sameRanges.mono _ _ _
   | exact spec_DrawEarRanges.mono _ _
   | exact spec_EarRanges.mono _ _ _ _ _
   | exact LeO.none _
   | refine LeO.ite ?_ ?_
   | refine LeO.bind ?_ (fun _ => ?_)
  ·intro y0 y1 y2 y3 y4 y5 y6
   unfold laws_FnEarRanges.l1
   repeat' first
   | (with_reducible exact ih0 _ _ _ _ _ _)
   | (with_reducible exact ih1 _ _ _ _ _ _ _)
   | (with_reducible exact ih2 _ _ _ _ _ _ _)
   | (with_reducible exact ih3 _ _ _ _ _ _ _ _ _)
   | (with_reducible exact impl_EarOk.mono _ _ _ _ _)
   | (with_reducible exact impl_EarRanges.mono _ _ _ _ _)
   | (with_reducible exact laws_alive.mono _)
   | (with_reducible exact laws_sameRanges.mono _ _ _)
   | (with_reducible exact spec_DrawEarRanges.mono _ _)
   | (with_reducible exact spec_EarRanges.mono _ _ _ _ _)
   | (with_reducible exact LeO.refl _)
   | (with_reducible exact LeO.none _)
   | (with_reducible refine LeO.ite ?_ ?_)
   | (with_reducible refine LeO.bind ?_ (fun _ => ?_))
   | exact ih0 _ _ _ _ _ _
   | exact ih1 _ _ _ _ _ _ _
   | exact ih2 _ _ _ _ _ _ _
   | exact ih3 _ _ _ _ _ _ _ _ _
   | exact impl_EarOk.mono _ _ _ _ _
   | exact impl_EarRanges.mono _ _ _ _ _
   | exact laws_alive.mono _
   | exact laws_sameRanges.mono _ _ _
   | exact spec_DrawEarRanges.mono _ _
   | exact spec_EarRanges.mono _ _ _ _ _
   | exact LeO.none _
   | refine LeO.ite ?_ ?_
   | refine LeO.bind ?_ (fun _ => ?_)
  ·intro y0 y1 y2 y3 y4 y5 y6 y7 y8
   unfold laws_FnEarRanges.l2
   repeat' first
   | (with_reducible exact ih0 _ _ _ _ _ _)
   | (with_reducible exact ih1 _ _ _ _ _ _ _)
   | (with_reducible exact ih2 _ _ _ _ _ _ _)
   | (with_reducible exact ih3 _ _ _ _ _ _ _ _ _)
   | (with_reducible exact impl_EarOk.mono _ _ _ _ _)
   | (with_reducible exact impl_EarRanges.mono _ _ _ _ _)
   | (with_reducible exact laws_alive.mono _)
   | (with_reducible exact laws_sameRanges.mono _ _ _)
   | (with_reducible exact spec_DrawEarRanges.mono _ _)
   | (with_reducible exact spec_EarRanges.mono _ _ _ _ _)
   | (with_reducible exact LeO.refl _)
   | (with_reducible exact LeO.none _)
   | (with_reducible refine LeO.ite ?_ ?_)
   | (with_reducible refine LeO.bind ?_ (fun _ => ?_))
   | exact ih0 _ _ _ _ _ _
   | exact ih1 _ _ _ _ _ _ _
   | exact ih2 _ _ _ _ _ _ _
   | exact ih3 _ _ _ _ _ _ _ _ _
   | exact impl_EarOk.mono _ _ _ _ _
   | exact impl_EarRanges.mono _ _ _ _ _
   | exact laws_alive.mono _
   | exact laws_sameRanges.mono _ _ _
   | exact spec_DrawEarRanges.mono _ _
   | exact spec_EarRanges.mono _ _ _ _ _
   | exact LeO.none _
   | refine LeO.ite ?_ ?_
   | refine LeO.bind ?_ (fun _ => ?_)
theorem laws_FnEarRanges.mono : ∀ a0 k, LeO (laws_FnEarRanges.f k a0) (laws_FnEarRanges.f (k + 1) a0) := by
 intro a0 k
 obtain ⟨ih0, ih1, ih2, ih3⟩ := laws_FnEarRanges.mono_l k
 unfold laws_FnEarRanges.f
 repeat' first
   | (with_reducible exact ih0 _ _ _ _ _ _)
   | (with_reducible exact ih1 _ _ _ _ _ _ _)
   | (with_reducible exact ih2 _ _ _ _ _ _ _)
   | (with_reducible exact ih3 _ _ _ _ _ _ _ _ _)
   | (with_reducible exact impl_EarOk.mono _ _ _ _ _)
   | (with_reducible exact impl_EarRanges.mono _ _ _ _ _)
   | (with_reducible exact laws_alive.mono _)
   | (with_reducible exact laws_sameRanges.mono _ _ _)
   | (with_reducible exact spec_DrawEarRanges.mono _ _)
   | (with_reducible exact spec_EarRanges.mono _ _ _ _ _)
   | (with_reducible exact LeO.refl _)
   | (with_reducible exact LeO.none _)
   | (with_reducible refine LeO.ite ?_ ?_)
   | (with_reducible refine LeO.bind ?_ (fun _ => ?_))
   | exact ih0 _ _ _ _ _ _
   | exact ih1 _ _ _ _ _ _ _
   | exact ih2 _ _ _ _ _ _ _
   | exact ih3 _ _ _ _ _ _ _ _ _
   | exact impl_EarOk.mono _ _ _ _ _
   | exact impl_EarRanges.mono _ _ _ _ _
   | exact laws_alive.mono _
   | exact laws_sameRanges.mono _ _ _
   | exact spec_DrawEarRanges.mono _ _
   | exact spec_EarRanges.mono _ _ _ _ _
   | exact LeO.none _
   | refine LeO.ite ?_ ?_
   | refine LeO.bind ?_ (fun _ => ?_)
set_option maxHeartbeats 8000000 in
set_option maxRecDepth 100000 in
theorem laws_FnEarRanges.calls (k : Nat) (A0 : Option Addr) (c0 : Nat) (l0 : List Int) (r : Bool) (w : World) (hr0 : Kd.C (Kd.int .u8) w A0 l0.length l0) (hc0 : l0.length ≤ c0) (h : laws_FnEarRanges.f k l0 = some r) :
  Calls Try.prog 8 #[.slice A0 l0.length c0] w fun e w' => e = .returned (.bool r) ∧ Below w.heap.size w w' := by
 have hu59 := Try.underlying59
 have HR0 := mk_ hr0
 have HC0 := mk_ hc0
 clear hr0 hc0
 have HB := mk_ (Below.refl w.heap.size w)
 have H := h
 unfold laws_FnEarRanges.f at H
 clear h
 by_cases c2 : (l0.length : Int) > 1048576
 focus
  rw [if_pos c2] at H
  have c2b0 : decide (1048576 < (l0.length : Int)) = true := decide_eq_true c2
  have c2b1 : decide (1048576 < l0.length) = true := decide_eq_true (by omega)
  clear c2
  obtain rfl := Option.some.inj H
 rotate_left
 focus
  rw [if_neg c2] at H
  have c2b0 : decide (1048576 < (l0.length : Int)) = false := decide_eq_false c2
  have c2b1 : decide (1048576 < l0.length) = false := decide_eq_false (by omega)
  clear c2
  replace H := Option.bind_eq_some_iff.mp H
  obtain ⟨⟨t347, t348, t349, t352⟩, A30, H⟩ := H
  (try dsimp only at H)
  have A3 := mk_ A30
  clear A30
  replace H := Option.bind_eq_some_iff.mp H
  obtain ⟨t356, A40, H⟩ := H
  (try dsimp only at H)
  have A4 := mk_ A40
  clear A40
  replace H := Option.bind_eq_some_iff.mp H
  obtain ⟨t359, A50, H⟩ := H
  (try dsimp only at H)
  have A5 := mk_ A50
  clear A50
  replace H := Option.bind_eq_some_iff.mp H
  obtain ⟨t362, A60, H⟩ := H
  (try dsimp only at H)
  have A6 := mk_ A60
  clear A60
  by_cases c7 : t362 = true
  rotate_left
  focus
   replace c7 := Bool.eq_false_iff.mpr c7
   subst c7
   have H1 : (some false) = some r := by rw [if_neg (show ¬ (false = true) by decide)] at H; exact H
   clear H
   have H := H1
   clear H1
   obtain rfl := Option.some.inj H
  rotate_left
  focus
   subst c7
   rw [if_pos rfl] at H
   replace H := Option.bind_eq_some_iff.mp H
   obtain ⟨t363, A80, H⟩ := H
   (try dsimp only at H)
   have A8 := mk_ A80
   clear A80
   by_cases c9 : t363 = true
   rotate_left
   focus
    replace c9 := Bool.eq_false_iff.mpr c9
    subst c9
    rw [if_neg (show ¬ (false = true) by decide)] at H
    by_cases c54 : (t356.length : Int) = 0
    rotate_left
    focus
     rw [if_neg c54] at H
     have c54b0 : ((t356.length : Int) == 0) = false := beq_eq_false_iff_ne.mpr c54
     have c54b1 : ((t356.length : Int) != 0) = true := bne_iff_ne.mpr c54
     have c54b2 : ¬ (t356 = []) := fun h_ => c54 (by rw [h_]; rfl)
     obtain rfl := Option.some.inj H
    rotate_left
    focus
     rw [if_pos c54] at H
     have c54b0 : ((t356.length : Int) == 0) = true := beq_iff_eq.mpr c54
     have c54b1 : ((t356.length : Int) != 0) = false := bne_eq_false_iff_eq.mpr c54
     clear c54
     replace H := Option.bind_eq_some_iff.mp H
     obtain ⟨t364, A550, H⟩ := H
     replace H : (some t364) = some r := H
     have A55 := mk_ A550
     clear A550
     obtain rfl := Option.some.inj H
    rotate_left
   rotate_left 2
   focus
    subst c9
    have H1 : (laws_FnEarRanges.l0 k t356 0 t347 t348 t349 t352) = some r := by rw [if_pos rfl] at H; exact H
    clear H
    have H := H1
    clear H1
    have H' := mk_ H
    clear H
   rotate_left
  rotate_left 3
 rotate_left 4
 all_goals
  go_enter Try.func8, Try.ntmps8
  go_wp2_with (first | (go_at_call 34; (with_reducible refine (spec_DrawEarRanges.calls k _ _ l0 t347 t348 t349 t352 _ ?side1 ?side2 A3.out).mono ?_); (case side1 => repeat (first | exact HR0.out | (with_reducible refine Kd.C_alloc ?_ _) | (with_reducible refine Kd.C_drewN ?_ _) | (with_reducible refine Kd.C_drew ?_))); (case side2 => exact HC0.out); rintro e w8080 ⟨v8081, v8082, rfl, ho8083, ho8084, hb⟩; have HO351 := mk_ (Kd.R_lower ho8083 (below_size (ub_ HB.out))); have HO354 := mk_ (Kd.Q_lower ho8084 (below_size (ub_ HB.out))); replace HB := mk_ (below_step (ub_ HB.out) hb)) | ((with_reducible refine gate_dst (N := 3) rfl ?_); refine box_event ?hg (N := 3) ?hd (cs := #[.int .i64 0, .int .i64 0, .slice none 0 0, .slice none 0 0]) (t := 59) ?hr ?_; (case hd => rfl); (case hg => rfl); (case hr => first | (go_simp; done) | (go_simp; rfl)); intro gb8120 hg w8121 hbox hb; replace HO351 := mk_ (Kd.R_below (Kd.ur_ HO351.out) hb); replace HO354 := mk_ (Kd.Q_below (by (with_reducible repeat (first | apply Kd.Q_alloc | apply Kd.Q_drewN | apply Kd.Q_drew)); exact HO354.out) hb); have n2_ := mk_ (below_step (ub_ HB.out) hb); have BK355 := mk_ (hbox); have GW355 := mk_ ((by rw [hg]; exact (below_size (ub_ HB.out)) : w.heap.size ≤ gb8120)); have GE355 := ge_ ((by rw [hg]; exact (below_size (ub_ HB.out)) : w.heap.size ≤ gb8120)); replace HB := n2_; clear n2_; clear hb hbox hg; obtain ⟨hcz1780355_0, hcz1780355_1, hcz1780355_2, hcz1780355_3, hfz1780355_0, hfz1780355_1, hfz1780355_2, hfz1780355_3⟩ := cells4_ BK355.out; obtain ⟨Ao1780351, co1780351, eo1780351⟩ := Kd.R_slice HO351.out; subst eo1780351; obtain ⟨Ao8122, co8122, eo8122, _⟩ := Kd.Q_slice HO354.out; subst eo8122) | (go_at_call 35; (with_reducible refine (impl_EarRanges.calls k t347 t348 _ _ t349 _ _ t352 t356 _ ?side1 ?side2 ?side3 ?side4 A4.out).mono ?_); (case side1 => refine (Kd.R_reads' (e := 5) (base := w.heap.size) (ok := fun k_ => True) (n := t349.length) (c := co1780351) ?_).2.2; exact (by (with_reducible repeat (first | apply Kd.R_alloc | apply Kd.R_drewN | apply Kd.R_drew)); exact (Kd.R_mono (Kd.R_far (p := ⟨gb8120, 3, none⟩) (Kd.R_far (p := ⟨gb8120, 2, none⟩) (Kd.R_far (p := ⟨gb8120, 1, none⟩) (Kd.R_far (p := ⟨gb8120, 0, none⟩) (Kd.R_types HO351.out BK355.out (by decide)) (fun _ hk => hk.2) (.int .i64 t347)) (fun _ hk => hk.2) (.int .i64 t348)) (fun _ hk => hk.2) (.slice Ao1780351 t349.length co1780351)) (fun _ hk => hk.2) (.slice Ao8122 t352.length co8122)) (fun _ h_ => by first | exact h_.1 | simp only [h_, ne_eq, not_false_eq_true, and_self])))); (case side2 => exact (Kd.R_reads' HO351.out).2.1); (case side3 => refine (Kd.Q_reads' (e := 68) (base := w.heap.size) (ok := fun k_ => True) (n := t352.length) (c := co8122) ?_).2.2; exact (by (with_reducible repeat (first | apply Kd.Q_alloc | apply Kd.Q_drewN | apply Kd.Q_drew)); exact (Kd.Q_mono (Kd.Q_far (p := ⟨gb8120, 3, none⟩) (Kd.Q_far (p := ⟨gb8120, 2, none⟩) (Kd.Q_far (p := ⟨gb8120, 1, none⟩) (Kd.Q_far (p := ⟨gb8120, 0, none⟩) (Kd.Q_types HO354.out BK355.out (by decide)) (fun _ hk => hk.2) (.int .i64 t347)) (fun _ hk => hk.2) (.int .i64 t348)) (fun _ hk => hk.2) (.slice Ao1780351 t349.length co1780351)) (fun _ hk => hk.2) (.slice Ao8122 t352.length co8122)) (fun _ h_ => by first | exact h_.1 | simp only [h_, ne_eq, not_false_eq_true, and_self])))); (case side4 => exact (Kd.Q_reads' HO354.out).2.1); rintro e w8160 ⟨v8161, rfl, ho8083, hb⟩; replace HO351 := mk_ (Kd.R_below (by (with_reducible repeat (first | apply Kd.R_alloc | apply Kd.R_drewN | apply Kd.R_drew)); exact (Kd.R_mono (Kd.R_far (p := ⟨gb8120, 3, none⟩) (Kd.R_far (p := ⟨gb8120, 2, none⟩) (Kd.R_far (p := ⟨gb8120, 1, none⟩) (Kd.R_far (p := ⟨gb8120, 0, none⟩) (Kd.R_types HO351.out BK355.out (by decide)) (fun _ hk => hk.2) (.int .i64 t347)) (fun _ hk => hk.2) (.int .i64 t348)) (fun _ hk => hk.2) (.slice Ao1780351 t349.length co1780351)) (fun _ hk => hk.2) (.slice Ao8122 t352.length co8122)) (fun _ h_ => by first | exact h_.1 | simp only [h_, ne_eq, not_false_eq_true, and_self]))) hb); replace HO354 := mk_ (Kd.Q_below (by (with_reducible repeat (first | apply Kd.Q_alloc | apply Kd.Q_drewN | apply Kd.Q_drew)); exact (Kd.Q_mono (Kd.Q_far (p := ⟨gb8120, 3, none⟩) (Kd.Q_far (p := ⟨gb8120, 2, none⟩) (Kd.Q_far (p := ⟨gb8120, 1, none⟩) (Kd.Q_far (p := ⟨gb8120, 0, none⟩) (Kd.Q_types HO354.out BK355.out (by decide)) (fun _ hk => hk.2) (.int .i64 t347)) (fun _ hk => hk.2) (.int .i64 t348)) (fun _ hk => hk.2) (.slice Ao1780351 t349.length co1780351)) (fun _ hk => hk.2) (.slice Ao8122 t352.length co8122)) (fun _ h_ => by first | exact h_.1 | simp only [h_, ne_eq, not_false_eq_true, and_self]))) hb); have HO358 := mk_ (Kd.R_lower ho8083 (below_size (us_ HB.out))); replace BK355 := mk_ (blk_below (g := gb8120) (o := .cells #[.int .i64 t347, .int .i64 t348, .slice Ao1780351 t349.length co1780351, .slice Ao8122 t352.length co8122] 59 (0, 0)) (by (with_reducible repeat (first | refine bn_ ?_ _ | refine bw_ ?_ | refine ba_ ?_ _)); refine blk_put (cs := #[.int .i64 t347, .int .i64 t348, .slice Ao1780351 t349.length co1780351, .slice none 0 0]) ?_ 3 _ rfl; (with_reducible repeat (first | refine bn_ ?_ _ | refine bw_ ?_ | refine ba_ ?_ _)); refine blk_put (cs := #[.int .i64 t347, .int .i64 t348, .slice none 0 0, .slice none 0 0]) ?_ 2 _ rfl; (with_reducible repeat (first | refine bn_ ?_ _ | refine bw_ ?_ | refine ba_ ?_ _)); refine blk_put (cs := #[.int .i64 t347, .int .i64 0, .slice none 0 0, .slice none 0 0]) ?_ 1 _ rfl; (with_reducible repeat (first | refine bn_ ?_ _ | refine bw_ ?_ | refine ba_ ?_ _)); refine blk_put (cs := #[.int .i64 0, .int .i64 0, .slice none 0 0, .slice none 0 0]) ?_ 0 _ rfl; (with_reducible repeat (first | refine bn_ ?_ _ | refine bw_ ?_ | refine ba_ ?_ _)); exact BK355.out) hb); replace HB := mk_ (below_step (us_ HB.out) hb); obtain ⟨hcz1790355_0, hcz1790355_1, hcz1790355_2, hcz1790355_3, hfz1790355_0, hfz1790355_1, hfz1790355_2, hfz1790355_3⟩ := cells4_ BK355.out) | (go_at_call 37; (with_reducible refine (spec_EarRanges.calls k t347 t348 _ _ t349 _ _ t352 t359 _ ?side1 ?side2 ?side3 ?side4 A5.out).mono ?_); (case side1 => repeat (first | exact (Kd.R_reads' HO351.out).2.2 | (with_reducible refine Kd.C_alloc ?_ _) | (with_reducible refine Kd.C_drewN ?_ _) | (with_reducible refine Kd.C_drew ?_))); (case side2 => exact (Kd.R_reads' HO351.out).2.1); (case side3 => repeat (first | exact (Kd.Q_reads' HO354.out).2.2 | (with_reducible refine Kd.C_alloc ?_ _) | (with_reducible refine Kd.C_drewN ?_ _) | (with_reducible refine Kd.C_drew ?_))); (case side4 => exact (Kd.Q_reads' HO354.out).2.1); rintro e w8200 ⟨v8201, rfl, ho8083, hb⟩; replace HO351 := mk_ (Kd.R_below (Kd.ur_ HO351.out) hb); replace HO354 := mk_ (Kd.Q_below (by (with_reducible repeat (first | apply Kd.Q_alloc | apply Kd.Q_drewN | apply Kd.Q_drew)); exact HO354.out) hb); have n2_ := mk_ (Kd.R_elder' (Kd.ur_ HO358.out) (Kd.R_base ho8083) hb); have HO361 := mk_ (Kd.R_lower (Kd.R_new' ho8083 (Kd.R_lt (Kd.ur_ HO358.out))) (below_size (us_ HB.out))); replace BK355 := mk_ (blk_below (u_ BK355.out) hb); replace HB := mk_ (below_step (us_ HB.out) hb); replace HO358 := n2_; clear n2_; obtain ⟨Ao1800358, co1800358, eo1800358⟩ := Kd.R_slice HO358.out; subst eo1800358; obtain ⟨Ao1800361, co1800361, eo1800361⟩ := Kd.R_slice HO361.out; subst eo1800361) | (go_at_call 36; (with_reducible refine (laws_sameRanges.calls k _ _ t356 _ _ t359 false _ ?side1 ?side2 ?side3 ?side4 A6.out).mono ?_); (case side1 => repeat (first | exact (Kd.R_reads' HO358.out).2.2 | (with_reducible refine Kd.C_alloc ?_ _) | (with_reducible refine Kd.C_drewN ?_ _) | (with_reducible refine Kd.C_drew ?_))); (case side2 => exact (Kd.R_reads' HO358.out).2.1); (case side3 => repeat (first | exact (Kd.R_reads' HO361.out).2.2 | (with_reducible refine Kd.C_alloc ?_ _) | (with_reducible refine Kd.C_drewN ?_ _) | (with_reducible refine Kd.C_drew ?_))); (case side4 => exact (Kd.R_reads' HO361.out).2.1); rintro e w' ⟨rfl, ⟨nd, rfl⟩⟩; (try first | exact ⟨rfl, _, World.drewN_drewN _ _ _⟩ | exact ⟨rfl, _, Eq.trans (World.drewN_drewN _ _ _) (congrArg (World.drewN _) (Nat.add_assoc _ _ _))⟩)) | (go_at_call 36; (with_reducible refine (laws_sameRanges.calls k _ _ t356 _ _ t359 true _ ?side1 ?side2 ?side3 ?side4 A6.out).mono ?_); (case side1 => repeat (first | exact (Kd.R_reads' HO358.out).2.2 | (with_reducible refine Kd.C_alloc ?_ _) | (with_reducible refine Kd.C_drewN ?_ _) | (with_reducible refine Kd.C_drew ?_))); (case side2 => exact (Kd.R_reads' HO358.out).2.1); (case side3 => repeat (first | exact (Kd.R_reads' HO361.out).2.2 | (with_reducible refine Kd.C_alloc ?_ _) | (with_reducible refine Kd.C_drewN ?_ _) | (with_reducible refine Kd.C_drew ?_))); (case side4 => exact (Kd.R_reads' HO361.out).2.1); rintro e w' ⟨rfl, ⟨nd, rfl⟩⟩; (try first | exact ⟨rfl, _, World.drewN_drewN _ _ _⟩ | exact ⟨rfl, _, Eq.trans (World.drewN_drewN _ _ _) (congrArg (World.drewN _) (Nat.add_assoc _ _ _))⟩); obtain ⟨hcz1830355_0, hcz1830355_1, hcz1830355_2, hcz1830355_3, hfz1830355_0, hfz1830355_1, hfz1830355_2, hfz1830355_3⟩ := cells4_ BK355.out) | (go_at_call 32; (with_reducible refine (impl_EarOk.calls k t347 t348 _ _ t349 _ _ t352 false _ ?side1 ?side2 ?side3 ?side4 A8.out).mono ?_); (case side1 => repeat (first | exact (Kd.R_reads' HO351.out).2.2 | (with_reducible refine Kd.C_alloc ?_ _) | (with_reducible refine Kd.C_drewN ?_ _) | (with_reducible refine Kd.C_drew ?_))); (case side2 => exact (Kd.R_reads' HO351.out).2.1); (case side3 => repeat (first | exact (Kd.Q_reads' HO354.out).2.2 | (with_reducible refine Kd.C_alloc ?_ _) | (with_reducible refine Kd.C_drewN ?_ _) | (with_reducible refine Kd.C_drew ?_))); (case side4 => exact (Kd.Q_reads' HO354.out).2.1); rintro e w8360 ⟨rfl, hb⟩; replace HO351 := mk_ (Kd.R_below (Kd.ur_ HO351.out) hb); replace HO354 := mk_ (Kd.Q_below (by (with_reducible repeat (first | apply Kd.Q_alloc | apply Kd.Q_drewN | apply Kd.Q_drew)); exact HO354.out) hb); replace HO358 := mk_ (Kd.R_below (Kd.ur_ HO358.out) hb); replace HO361 := mk_ (Kd.R_below (Kd.ur_ HO361.out) hb); replace BK355 := mk_ (blk_below (u_ BK355.out) hb); replace HB := mk_ (below_step (us_ HB.out) hb)) | (go_at_call 13; (with_reducible refine (laws_alive.calls k  t364 _ A55.out).mono ?_); rintro e w8400 ⟨rfl, hb⟩; replace HO351 := mk_ (Kd.R_below (Kd.ur_ HO351.out) hb); replace HO354 := mk_ (Kd.Q_below (by (with_reducible repeat (first | apply Kd.Q_alloc | apply Kd.Q_drewN | apply Kd.Q_drew)); exact HO354.out) hb); replace HO358 := mk_ (Kd.R_below (Kd.ur_ HO358.out) hb); replace HO361 := mk_ (Kd.R_below (Kd.ur_ HO361.out) hb); replace BK355 := mk_ (blk_below (u_ BK355.out) hb); replace HB := mk_ (below_step (us_ HB.out) hb)) | (go_at_call 32; (with_reducible refine (impl_EarOk.calls k t347 t348 _ _ t349 _ _ t352 true _ ?side1 ?side2 ?side3 ?side4 A8.out).mono ?_); (case side1 => repeat (first | exact (Kd.R_reads' HO351.out).2.2 | (with_reducible refine Kd.C_alloc ?_ _) | (with_reducible refine Kd.C_drewN ?_ _) | (with_reducible refine Kd.C_drew ?_))); (case side2 => exact (Kd.R_reads' HO351.out).2.1); (case side3 => repeat (first | exact (Kd.Q_reads' HO354.out).2.2 | (with_reducible refine Kd.C_alloc ?_ _) | (with_reducible refine Kd.C_drewN ?_ _) | (with_reducible refine Kd.C_drew ?_))); (case side4 => exact (Kd.Q_reads' HO354.out).2.1); rintro e w8440 ⟨rfl, hb⟩; replace HO351 := mk_ (Kd.R_below (Kd.ur_ HO351.out) hb); replace HO354 := mk_ (Kd.Q_below (by (with_reducible repeat (first | apply Kd.Q_alloc | apply Kd.Q_drewN | apply Kd.Q_drew)); exact HO354.out) hb); replace HO358 := mk_ (Kd.R_below (Kd.ur_ HO358.out) hb); replace HO361 := mk_ (Kd.R_below (Kd.ur_ HO361.out) hb); replace BK355 := mk_ (blk_below (u_ BK355.out) hb); replace HB := mk_ (below_step (us_ HB.out) hb)))
 ·repeat (go_quiet (fail); try go_wp2)
  go_ret
  exact ⟨by first | rfl | (simp [errW_none, errW_some] <;> rfl) | (simp [*, errW_none, errW_some] <;> rfl), by repeat (first | (with_reducible first | exact HB.out | apply na_ | apply nn_ | apply nw_) | exact HB.out)⟩
 ·repeat (go_quiet (first | (go_at_call 34; (with_reducible refine (spec_DrawEarRanges.calls k _ _ l0 t347 t348 t349 t352 _ ?side1 ?side2 A3.out).mono ?_); (case side1 => repeat (first | exact HR0.out | (with_reducible refine Kd.C_alloc ?_ _) | (with_reducible refine Kd.C_drewN ?_ _) | (with_reducible refine Kd.C_drew ?_))); (case side2 => exact HC0.out); rintro e w8080 ⟨v8081, v8082, rfl, ho8083, ho8084, hb⟩; have HO351 := mk_ (Kd.R_lower ho8083 (below_size (ub_ HB.out))); have HO354 := mk_ (Kd.Q_lower ho8084 (below_size (ub_ HB.out))); replace HB := mk_ (below_step (ub_ HB.out) hb)) | ((with_reducible refine gate_dst (N := 3) rfl ?_); refine box_event ?hg (N := 3) ?hd (cs := #[.int .i64 0, .int .i64 0, .slice none 0 0, .slice none 0 0]) (t := 59) ?hr ?_; (case hd => rfl); (case hg => rfl); (case hr => first | (go_simp; done) | (go_simp; rfl)); intro gb8120 hg w8121 hbox hb; replace HO351 := mk_ (Kd.R_below (Kd.ur_ HO351.out) hb); replace HO354 := mk_ (Kd.Q_below (by (with_reducible repeat (first | apply Kd.Q_alloc | apply Kd.Q_drewN | apply Kd.Q_drew)); exact HO354.out) hb); have n2_ := mk_ (below_step (ub_ HB.out) hb); have BK355 := mk_ (hbox); have GW355 := mk_ ((by rw [hg]; exact (below_size (ub_ HB.out)) : w.heap.size ≤ gb8120)); have GE355 := ge_ ((by rw [hg]; exact (below_size (ub_ HB.out)) : w.heap.size ≤ gb8120)); replace HB := n2_; clear n2_; clear hb hbox hg; obtain ⟨hcz1780355_0, hcz1780355_1, hcz1780355_2, hcz1780355_3, hfz1780355_0, hfz1780355_1, hfz1780355_2, hfz1780355_3⟩ := cells4_ BK355.out; obtain ⟨Ao1780351, co1780351, eo1780351⟩ := Kd.R_slice HO351.out; subst eo1780351; obtain ⟨Ao8122, co8122, eo8122, _⟩ := Kd.Q_slice HO354.out; subst eo8122) | (go_at_call 35; (with_reducible refine (impl_EarRanges.calls k t347 t348 _ _ t349 _ _ t352 t356 _ ?side1 ?side2 ?side3 ?side4 A4.out).mono ?_); (case side1 => refine (Kd.R_reads' (e := 5) (base := w.heap.size) (ok := fun k_ => True) (n := t349.length) (c := co1780351) ?_).2.2; exact (by (with_reducible repeat (first | apply Kd.R_alloc | apply Kd.R_drewN | apply Kd.R_drew)); exact (Kd.R_mono (Kd.R_far (p := ⟨gb8120, 3, none⟩) (Kd.R_far (p := ⟨gb8120, 2, none⟩) (Kd.R_far (p := ⟨gb8120, 1, none⟩) (Kd.R_far (p := ⟨gb8120, 0, none⟩) (Kd.R_types HO351.out BK355.out (by decide)) (fun _ hk => hk.2) (.int .i64 t347)) (fun _ hk => hk.2) (.int .i64 t348)) (fun _ hk => hk.2) (.slice Ao1780351 t349.length co1780351)) (fun _ hk => hk.2) (.slice Ao8122 t352.length co8122)) (fun _ h_ => by first | exact h_.1 | simp only [h_, ne_eq, not_false_eq_true, and_self])))); (case side2 => exact (Kd.R_reads' HO351.out).2.1); (case side3 => refine (Kd.Q_reads' (e := 68) (base := w.heap.size) (ok := fun k_ => True) (n := t352.length) (c := co8122) ?_).2.2; exact (by (with_reducible repeat (first | apply Kd.Q_alloc | apply Kd.Q_drewN | apply Kd.Q_drew)); exact (Kd.Q_mono (Kd.Q_far (p := ⟨gb8120, 3, none⟩) (Kd.Q_far (p := ⟨gb8120, 2, none⟩) (Kd.Q_far (p := ⟨gb8120, 1, none⟩) (Kd.Q_far (p := ⟨gb8120, 0, none⟩) (Kd.Q_types HO354.out BK355.out (by decide)) (fun _ hk => hk.2) (.int .i64 t347)) (fun _ hk => hk.2) (.int .i64 t348)) (fun _ hk => hk.2) (.slice Ao1780351 t349.length co1780351)) (fun _ hk => hk.2) (.slice Ao8122 t352.length co8122)) (fun _ h_ => by first | exact h_.1 | simp only [h_, ne_eq, not_false_eq_true, and_self])))); (case side4 => exact (Kd.Q_reads' HO354.out).2.1); rintro e w8160 ⟨v8161, rfl, ho8083, hb⟩; replace HO351 := mk_ (Kd.R_below (by (with_reducible repeat (first | apply Kd.R_alloc | apply Kd.R_drewN | apply Kd.R_drew)); exact (Kd.R_mono (Kd.R_far (p := ⟨gb8120, 3, none⟩) (Kd.R_far (p := ⟨gb8120, 2, none⟩) (Kd.R_far (p := ⟨gb8120, 1, none⟩) (Kd.R_far (p := ⟨gb8120, 0, none⟩) (Kd.R_types HO351.out BK355.out (by decide)) (fun _ hk => hk.2) (.int .i64 t347)) (fun _ hk => hk.2) (.int .i64 t348)) (fun _ hk => hk.2) (.slice Ao1780351 t349.length co1780351)) (fun _ hk => hk.2) (.slice Ao8122 t352.length co8122)) (fun _ h_ => by first | exact h_.1 | simp only [h_, ne_eq, not_false_eq_true, and_self]))) hb); replace HO354 := mk_ (Kd.Q_below (by (with_reducible repeat (first | apply Kd.Q_alloc | apply Kd.Q_drewN | apply Kd.Q_drew)); exact (Kd.Q_mono (Kd.Q_far (p := ⟨gb8120, 3, none⟩) (Kd.Q_far (p := ⟨gb8120, 2, none⟩) (Kd.Q_far (p := ⟨gb8120, 1, none⟩) (Kd.Q_far (p := ⟨gb8120, 0, none⟩) (Kd.Q_types HO354.out BK355.out (by decide)) (fun _ hk => hk.2) (.int .i64 t347)) (fun _ hk => hk.2) (.int .i64 t348)) (fun _ hk => hk.2) (.slice Ao1780351 t349.length co1780351)) (fun _ hk => hk.2) (.slice Ao8122 t352.length co8122)) (fun _ h_ => by first | exact h_.1 | simp only [h_, ne_eq, not_false_eq_true, and_self]))) hb); have HO358 := mk_ (Kd.R_lower ho8083 (below_size (us_ HB.out))); replace BK355 := mk_ (blk_below (g := gb8120) (o := .cells #[.int .i64 t347, .int .i64 t348, .slice Ao1780351 t349.length co1780351, .slice Ao8122 t352.length co8122] 59 (0, 0)) (by (with_reducible repeat (first | refine bn_ ?_ _ | refine bw_ ?_ | refine ba_ ?_ _)); refine blk_put (cs := #[.int .i64 t347, .int .i64 t348, .slice Ao1780351 t349.length co1780351, .slice none 0 0]) ?_ 3 _ rfl; (with_reducible repeat (first | refine bn_ ?_ _ | refine bw_ ?_ | refine ba_ ?_ _)); refine blk_put (cs := #[.int .i64 t347, .int .i64 t348, .slice none 0 0, .slice none 0 0]) ?_ 2 _ rfl; (with_reducible repeat (first | refine bn_ ?_ _ | refine bw_ ?_ | refine ba_ ?_ _)); refine blk_put (cs := #[.int .i64 t347, .int .i64 0, .slice none 0 0, .slice none 0 0]) ?_ 1 _ rfl; (with_reducible repeat (first | refine bn_ ?_ _ | refine bw_ ?_ | refine ba_ ?_ _)); refine blk_put (cs := #[.int .i64 0, .int .i64 0, .slice none 0 0, .slice none 0 0]) ?_ 0 _ rfl; (with_reducible repeat (first | refine bn_ ?_ _ | refine bw_ ?_ | refine ba_ ?_ _)); exact BK355.out) hb); replace HB := mk_ (below_step (us_ HB.out) hb); obtain ⟨hcz1790355_0, hcz1790355_1, hcz1790355_2, hcz1790355_3, hfz1790355_0, hfz1790355_1, hfz1790355_2, hfz1790355_3⟩ := cells4_ BK355.out) | (go_at_call 37; (with_reducible refine (spec_EarRanges.calls k t347 t348 _ _ t349 _ _ t352 t359 _ ?side1 ?side2 ?side3 ?side4 A5.out).mono ?_); (case side1 => repeat (first | exact (Kd.R_reads' HO351.out).2.2 | (with_reducible refine Kd.C_alloc ?_ _) | (with_reducible refine Kd.C_drewN ?_ _) | (with_reducible refine Kd.C_drew ?_))); (case side2 => exact (Kd.R_reads' HO351.out).2.1); (case side3 => repeat (first | exact (Kd.Q_reads' HO354.out).2.2 | (with_reducible refine Kd.C_alloc ?_ _) | (with_reducible refine Kd.C_drewN ?_ _) | (with_reducible refine Kd.C_drew ?_))); (case side4 => exact (Kd.Q_reads' HO354.out).2.1); rintro e w8200 ⟨v8201, rfl, ho8083, hb⟩; replace HO351 := mk_ (Kd.R_below (Kd.ur_ HO351.out) hb); replace HO354 := mk_ (Kd.Q_below (by (with_reducible repeat (first | apply Kd.Q_alloc | apply Kd.Q_drewN | apply Kd.Q_drew)); exact HO354.out) hb); have n2_ := mk_ (Kd.R_elder' (Kd.ur_ HO358.out) (Kd.R_base ho8083) hb); have HO361 := mk_ (Kd.R_lower (Kd.R_new' ho8083 (Kd.R_lt (Kd.ur_ HO358.out))) (below_size (us_ HB.out))); replace BK355 := mk_ (blk_below (u_ BK355.out) hb); replace HB := mk_ (below_step (us_ HB.out) hb); replace HO358 := n2_; clear n2_; obtain ⟨Ao1800358, co1800358, eo1800358⟩ := Kd.R_slice HO358.out; subst eo1800358; obtain ⟨Ao1800361, co1800361, eo1800361⟩ := Kd.R_slice HO361.out; subst eo1800361) | (go_at_call 36; (with_reducible refine (laws_sameRanges.calls k _ _ t356 _ _ t359 false _ ?side1 ?side2 ?side3 ?side4 A6.out).mono ?_); (case side1 => repeat (first | exact (Kd.R_reads' HO358.out).2.2 | (with_reducible refine Kd.C_alloc ?_ _) | (with_reducible refine Kd.C_drewN ?_ _) | (with_reducible refine Kd.C_drew ?_))); (case side2 => exact (Kd.R_reads' HO358.out).2.1); (case side3 => repeat (first | exact (Kd.R_reads' HO361.out).2.2 | (with_reducible refine Kd.C_alloc ?_ _) | (with_reducible refine Kd.C_drewN ?_ _) | (with_reducible refine Kd.C_drew ?_))); (case side4 => exact (Kd.R_reads' HO361.out).2.1); rintro e w' ⟨rfl, ⟨nd, rfl⟩⟩; (try first | exact ⟨rfl, _, World.drewN_drewN _ _ _⟩ | exact ⟨rfl, _, Eq.trans (World.drewN_drewN _ _ _) (congrArg (World.drewN _) (Nat.add_assoc _ _ _))⟩))); try go_wp2_with (first | (go_at_call 34; (with_reducible refine (spec_DrawEarRanges.calls k _ _ l0 t347 t348 t349 t352 _ ?side1 ?side2 A3.out).mono ?_); (case side1 => repeat (first | exact HR0.out | (with_reducible refine Kd.C_alloc ?_ _) | (with_reducible refine Kd.C_drewN ?_ _) | (with_reducible refine Kd.C_drew ?_))); (case side2 => exact HC0.out); rintro e w8080 ⟨v8081, v8082, rfl, ho8083, ho8084, hb⟩; have HO351 := mk_ (Kd.R_lower ho8083 (below_size (ub_ HB.out))); have HO354 := mk_ (Kd.Q_lower ho8084 (below_size (ub_ HB.out))); replace HB := mk_ (below_step (ub_ HB.out) hb)) | ((with_reducible refine gate_dst (N := 3) rfl ?_); refine box_event ?hg (N := 3) ?hd (cs := #[.int .i64 0, .int .i64 0, .slice none 0 0, .slice none 0 0]) (t := 59) ?hr ?_; (case hd => rfl); (case hg => rfl); (case hr => first | (go_simp; done) | (go_simp; rfl)); intro gb8120 hg w8121 hbox hb; replace HO351 := mk_ (Kd.R_below (Kd.ur_ HO351.out) hb); replace HO354 := mk_ (Kd.Q_below (by (with_reducible repeat (first | apply Kd.Q_alloc | apply Kd.Q_drewN | apply Kd.Q_drew)); exact HO354.out) hb); have n2_ := mk_ (below_step (ub_ HB.out) hb); have BK355 := mk_ (hbox); have GW355 := mk_ ((by rw [hg]; exact (below_size (ub_ HB.out)) : w.heap.size ≤ gb8120)); have GE355 := ge_ ((by rw [hg]; exact (below_size (ub_ HB.out)) : w.heap.size ≤ gb8120)); replace HB := n2_; clear n2_; clear hb hbox hg; obtain ⟨hcz1780355_0, hcz1780355_1, hcz1780355_2, hcz1780355_3, hfz1780355_0, hfz1780355_1, hfz1780355_2, hfz1780355_3⟩ := cells4_ BK355.out; obtain ⟨Ao1780351, co1780351, eo1780351⟩ := Kd.R_slice HO351.out; subst eo1780351; obtain ⟨Ao8122, co8122, eo8122, _⟩ := Kd.Q_slice HO354.out; subst eo8122) | (go_at_call 35; (with_reducible refine (impl_EarRanges.calls k t347 t348 _ _ t349 _ _ t352 t356 _ ?side1 ?side2 ?side3 ?side4 A4.out).mono ?_); (case side1 => refine (Kd.R_reads' (e := 5) (base := w.heap.size) (ok := fun k_ => True) (n := t349.length) (c := co1780351) ?_).2.2; exact (by (with_reducible repeat (first | apply Kd.R_alloc | apply Kd.R_drewN | apply Kd.R_drew)); exact (Kd.R_mono (Kd.R_far (p := ⟨gb8120, 3, none⟩) (Kd.R_far (p := ⟨gb8120, 2, none⟩) (Kd.R_far (p := ⟨gb8120, 1, none⟩) (Kd.R_far (p := ⟨gb8120, 0, none⟩) (Kd.R_types HO351.out BK355.out (by decide)) (fun _ hk => hk.2) (.int .i64 t347)) (fun _ hk => hk.2) (.int .i64 t348)) (fun _ hk => hk.2) (.slice Ao1780351 t349.length co1780351)) (fun _ hk => hk.2) (.slice Ao8122 t352.length co8122)) (fun _ h_ => by first | exact h_.1 | simp only [h_, ne_eq, not_false_eq_true, and_self])))); (case side2 => exact (Kd.R_reads' HO351.out).2.1); (case side3 => refine (Kd.Q_reads' (e := 68) (base := w.heap.size) (ok := fun k_ => True) (n := t352.length) (c := co8122) ?_).2.2; exact (by (with_reducible repeat (first | apply Kd.Q_alloc | apply Kd.Q_drewN | apply Kd.Q_drew)); exact (Kd.Q_mono (Kd.Q_far (p := ⟨gb8120, 3, none⟩) (Kd.Q_far (p := ⟨gb8120, 2, none⟩) (Kd.Q_far (p := ⟨gb8120, 1, none⟩) (Kd.Q_far (p := ⟨gb8120, 0, none⟩) (Kd.Q_types HO354.out BK355.out (by decide)) (fun _ hk => hk.2) (.int .i64 t347)) (fun _ hk => hk.2) (.int .i64 t348)) (fun _ hk => hk.2) (.slice Ao1780351 t349.length co1780351)) (fun _ hk => hk.2) (.slice Ao8122 t352.length co8122)) (fun _ h_ => by first | exact h_.1 | simp only [h_, ne_eq, not_false_eq_true, and_self])))); (case side4 => exact (Kd.Q_reads' HO354.out).2.1); rintro e w8160 ⟨v8161, rfl, ho8083, hb⟩; replace HO351 := mk_ (Kd.R_below (by (with_reducible repeat (first | apply Kd.R_alloc | apply Kd.R_drewN | apply Kd.R_drew)); exact (Kd.R_mono (Kd.R_far (p := ⟨gb8120, 3, none⟩) (Kd.R_far (p := ⟨gb8120, 2, none⟩) (Kd.R_far (p := ⟨gb8120, 1, none⟩) (Kd.R_far (p := ⟨gb8120, 0, none⟩) (Kd.R_types HO351.out BK355.out (by decide)) (fun _ hk => hk.2) (.int .i64 t347)) (fun _ hk => hk.2) (.int .i64 t348)) (fun _ hk => hk.2) (.slice Ao1780351 t349.length co1780351)) (fun _ hk => hk.2) (.slice Ao8122 t352.length co8122)) (fun _ h_ => by first | exact h_.1 | simp only [h_, ne_eq, not_false_eq_true, and_self]))) hb); replace HO354 := mk_ (Kd.Q_below (by (with_reducible repeat (first | apply Kd.Q_alloc | apply Kd.Q_drewN | apply Kd.Q_drew)); exact (Kd.Q_mono (Kd.Q_far (p := ⟨gb8120, 3, none⟩) (Kd.Q_far (p := ⟨gb8120, 2, none⟩) (Kd.Q_far (p := ⟨gb8120, 1, none⟩) (Kd.Q_far (p := ⟨gb8120, 0, none⟩) (Kd.Q_types HO354.out BK355.out (by decide)) (fun _ hk => hk.2) (.int .i64 t347)) (fun _ hk => hk.2) (.int .i64 t348)) (fun _ hk => hk.2) (.slice Ao1780351 t349.length co1780351)) (fun _ hk => hk.2) (.slice Ao8122 t352.length co8122)) (fun _ h_ => by first | exact h_.1 | simp only [h_, ne_eq, not_false_eq_true, and_self]))) hb); have HO358 := mk_ (Kd.R_lower ho8083 (below_size (us_ HB.out))); replace BK355 := mk_ (blk_below (g := gb8120) (o := .cells #[.int .i64 t347, .int .i64 t348, .slice Ao1780351 t349.length co1780351, .slice Ao8122 t352.length co8122] 59 (0, 0)) (by (with_reducible repeat (first | refine bn_ ?_ _ | refine bw_ ?_ | refine ba_ ?_ _)); refine blk_put (cs := #[.int .i64 t347, .int .i64 t348, .slice Ao1780351 t349.length co1780351, .slice none 0 0]) ?_ 3 _ rfl; (with_reducible repeat (first | refine bn_ ?_ _ | refine bw_ ?_ | refine ba_ ?_ _)); refine blk_put (cs := #[.int .i64 t347, .int .i64 t348, .slice none 0 0, .slice none 0 0]) ?_ 2 _ rfl; (with_reducible repeat (first | refine bn_ ?_ _ | refine bw_ ?_ | refine ba_ ?_ _)); refine blk_put (cs := #[.int .i64 t347, .int .i64 0, .slice none 0 0, .slice none 0 0]) ?_ 1 _ rfl; (with_reducible repeat (first | refine bn_ ?_ _ | refine bw_ ?_ | refine ba_ ?_ _)); refine blk_put (cs := #[.int .i64 0, .int .i64 0, .slice none 0 0, .slice none 0 0]) ?_ 0 _ rfl; (with_reducible repeat (first | refine bn_ ?_ _ | refine bw_ ?_ | refine ba_ ?_ _)); exact BK355.out) hb); replace HB := mk_ (below_step (us_ HB.out) hb); obtain ⟨hcz1790355_0, hcz1790355_1, hcz1790355_2, hcz1790355_3, hfz1790355_0, hfz1790355_1, hfz1790355_2, hfz1790355_3⟩ := cells4_ BK355.out) | (go_at_call 37; (with_reducible refine (spec_EarRanges.calls k t347 t348 _ _ t349 _ _ t352 t359 _ ?side1 ?side2 ?side3 ?side4 A5.out).mono ?_); (case side1 => repeat (first | exact (Kd.R_reads' HO351.out).2.2 | (with_reducible refine Kd.C_alloc ?_ _) | (with_reducible refine Kd.C_drewN ?_ _) | (with_reducible refine Kd.C_drew ?_))); (case side2 => exact (Kd.R_reads' HO351.out).2.1); (case side3 => repeat (first | exact (Kd.Q_reads' HO354.out).2.2 | (with_reducible refine Kd.C_alloc ?_ _) | (with_reducible refine Kd.C_drewN ?_ _) | (with_reducible refine Kd.C_drew ?_))); (case side4 => exact (Kd.Q_reads' HO354.out).2.1); rintro e w8200 ⟨v8201, rfl, ho8083, hb⟩; replace HO351 := mk_ (Kd.R_below (Kd.ur_ HO351.out) hb); replace HO354 := mk_ (Kd.Q_below (by (with_reducible repeat (first | apply Kd.Q_alloc | apply Kd.Q_drewN | apply Kd.Q_drew)); exact HO354.out) hb); have n2_ := mk_ (Kd.R_elder' (Kd.ur_ HO358.out) (Kd.R_base ho8083) hb); have HO361 := mk_ (Kd.R_lower (Kd.R_new' ho8083 (Kd.R_lt (Kd.ur_ HO358.out))) (below_size (us_ HB.out))); replace BK355 := mk_ (blk_below (u_ BK355.out) hb); replace HB := mk_ (below_step (us_ HB.out) hb); replace HO358 := n2_; clear n2_; obtain ⟨Ao1800358, co1800358, eo1800358⟩ := Kd.R_slice HO358.out; subst eo1800358; obtain ⟨Ao1800361, co1800361, eo1800361⟩ := Kd.R_slice HO361.out; subst eo1800361) | (go_at_call 36; (with_reducible refine (laws_sameRanges.calls k _ _ t356 _ _ t359 false _ ?side1 ?side2 ?side3 ?side4 A6.out).mono ?_); (case side1 => repeat (first | exact (Kd.R_reads' HO358.out).2.2 | (with_reducible refine Kd.C_alloc ?_ _) | (with_reducible refine Kd.C_drewN ?_ _) | (with_reducible refine Kd.C_drew ?_))); (case side2 => exact (Kd.R_reads' HO358.out).2.1); (case side3 => repeat (first | exact (Kd.R_reads' HO361.out).2.2 | (with_reducible refine Kd.C_alloc ?_ _) | (with_reducible refine Kd.C_drewN ?_ _) | (with_reducible refine Kd.C_drew ?_))); (case side4 => exact (Kd.R_reads' HO361.out).2.1); rintro e w' ⟨rfl, ⟨nd, rfl⟩⟩; (try first | exact ⟨rfl, _, World.drewN_drewN _ _ _⟩ | exact ⟨rfl, _, Eq.trans (World.drewN_drewN _ _ _) (congrArg (World.drewN _) (Nat.add_assoc _ _ _))⟩))))
  go_ret
  exact ⟨by first | rfl | (simp [errW_none, errW_some] <;> rfl) | (simp [*, errW_none, errW_some] <;> rfl), us_ HB.out⟩
 ·repeat (go_quiet (first | (go_at_call 34; (with_reducible refine (spec_DrawEarRanges.calls k _ _ l0 t347 t348 t349 t352 _ ?side1 ?side2 A3.out).mono ?_); (case side1 => repeat (first | exact HR0.out | (with_reducible refine Kd.C_alloc ?_ _) | (with_reducible refine Kd.C_drewN ?_ _) | (with_reducible refine Kd.C_drew ?_))); (case side2 => exact HC0.out); rintro e w8080 ⟨v8081, v8082, rfl, ho8083, ho8084, hb⟩; have HO351 := mk_ (Kd.R_lower ho8083 (below_size (ub_ HB.out))); have HO354 := mk_ (Kd.Q_lower ho8084 (below_size (ub_ HB.out))); replace HB := mk_ (below_step (ub_ HB.out) hb)) | ((with_reducible refine gate_dst (N := 3) rfl ?_); refine box_event ?hg (N := 3) ?hd (cs := #[.int .i64 0, .int .i64 0, .slice none 0 0, .slice none 0 0]) (t := 59) ?hr ?_; (case hd => rfl); (case hg => rfl); (case hr => first | (go_simp; done) | (go_simp; rfl)); intro gb8120 hg w8121 hbox hb; replace HO351 := mk_ (Kd.R_below (Kd.ur_ HO351.out) hb); replace HO354 := mk_ (Kd.Q_below (by (with_reducible repeat (first | apply Kd.Q_alloc | apply Kd.Q_drewN | apply Kd.Q_drew)); exact HO354.out) hb); have n2_ := mk_ (below_step (ub_ HB.out) hb); have BK355 := mk_ (hbox); have GW355 := mk_ ((by rw [hg]; exact (below_size (ub_ HB.out)) : w.heap.size ≤ gb8120)); have GE355 := ge_ ((by rw [hg]; exact (below_size (ub_ HB.out)) : w.heap.size ≤ gb8120)); replace HB := n2_; clear n2_; clear hb hbox hg; obtain ⟨hcz1780355_0, hcz1780355_1, hcz1780355_2, hcz1780355_3, hfz1780355_0, hfz1780355_1, hfz1780355_2, hfz1780355_3⟩ := cells4_ BK355.out; obtain ⟨Ao1780351, co1780351, eo1780351⟩ := Kd.R_slice HO351.out; subst eo1780351; obtain ⟨Ao8122, co8122, eo8122, _⟩ := Kd.Q_slice HO354.out; subst eo8122) | (go_at_call 35; (with_reducible refine (impl_EarRanges.calls k t347 t348 _ _ t349 _ _ t352 t356 _ ?side1 ?side2 ?side3 ?side4 A4.out).mono ?_); (case side1 => refine (Kd.R_reads' (e := 5) (base := w.heap.size) (ok := fun k_ => True) (n := t349.length) (c := co1780351) ?_).2.2; exact (by (with_reducible repeat (first | apply Kd.R_alloc | apply Kd.R_drewN | apply Kd.R_drew)); exact (Kd.R_mono (Kd.R_far (p := ⟨gb8120, 3, none⟩) (Kd.R_far (p := ⟨gb8120, 2, none⟩) (Kd.R_far (p := ⟨gb8120, 1, none⟩) (Kd.R_far (p := ⟨gb8120, 0, none⟩) (Kd.R_types HO351.out BK355.out (by decide)) (fun _ hk => hk.2) (.int .i64 t347)) (fun _ hk => hk.2) (.int .i64 t348)) (fun _ hk => hk.2) (.slice Ao1780351 t349.length co1780351)) (fun _ hk => hk.2) (.slice Ao8122 t352.length co8122)) (fun _ h_ => by first | exact h_.1 | simp only [h_, ne_eq, not_false_eq_true, and_self])))); (case side2 => exact (Kd.R_reads' HO351.out).2.1); (case side3 => refine (Kd.Q_reads' (e := 68) (base := w.heap.size) (ok := fun k_ => True) (n := t352.length) (c := co8122) ?_).2.2; exact (by (with_reducible repeat (first | apply Kd.Q_alloc | apply Kd.Q_drewN | apply Kd.Q_drew)); exact (Kd.Q_mono (Kd.Q_far (p := ⟨gb8120, 3, none⟩) (Kd.Q_far (p := ⟨gb8120, 2, none⟩) (Kd.Q_far (p := ⟨gb8120, 1, none⟩) (Kd.Q_far (p := ⟨gb8120, 0, none⟩) (Kd.Q_types HO354.out BK355.out (by decide)) (fun _ hk => hk.2) (.int .i64 t347)) (fun _ hk => hk.2) (.int .i64 t348)) (fun _ hk => hk.2) (.slice Ao1780351 t349.length co1780351)) (fun _ hk => hk.2) (.slice Ao8122 t352.length co8122)) (fun _ h_ => by first | exact h_.1 | simp only [h_, ne_eq, not_false_eq_true, and_self])))); (case side4 => exact (Kd.Q_reads' HO354.out).2.1); rintro e w8160 ⟨v8161, rfl, ho8083, hb⟩; replace HO351 := mk_ (Kd.R_below (by (with_reducible repeat (first | apply Kd.R_alloc | apply Kd.R_drewN | apply Kd.R_drew)); exact (Kd.R_mono (Kd.R_far (p := ⟨gb8120, 3, none⟩) (Kd.R_far (p := ⟨gb8120, 2, none⟩) (Kd.R_far (p := ⟨gb8120, 1, none⟩) (Kd.R_far (p := ⟨gb8120, 0, none⟩) (Kd.R_types HO351.out BK355.out (by decide)) (fun _ hk => hk.2) (.int .i64 t347)) (fun _ hk => hk.2) (.int .i64 t348)) (fun _ hk => hk.2) (.slice Ao1780351 t349.length co1780351)) (fun _ hk => hk.2) (.slice Ao8122 t352.length co8122)) (fun _ h_ => by first | exact h_.1 | simp only [h_, ne_eq, not_false_eq_true, and_self]))) hb); replace HO354 := mk_ (Kd.Q_below (by (with_reducible repeat (first | apply Kd.Q_alloc | apply Kd.Q_drewN | apply Kd.Q_drew)); exact (Kd.Q_mono (Kd.Q_far (p := ⟨gb8120, 3, none⟩) (Kd.Q_far (p := ⟨gb8120, 2, none⟩) (Kd.Q_far (p := ⟨gb8120, 1, none⟩) (Kd.Q_far (p := ⟨gb8120, 0, none⟩) (Kd.Q_types HO354.out BK355.out (by decide)) (fun _ hk => hk.2) (.int .i64 t347)) (fun _ hk => hk.2) (.int .i64 t348)) (fun _ hk => hk.2) (.slice Ao1780351 t349.length co1780351)) (fun _ hk => hk.2) (.slice Ao8122 t352.length co8122)) (fun _ h_ => by first | exact h_.1 | simp only [h_, ne_eq, not_false_eq_true, and_self]))) hb); have HO358 := mk_ (Kd.R_lower ho8083 (below_size (us_ HB.out))); replace BK355 := mk_ (blk_below (g := gb8120) (o := .cells #[.int .i64 t347, .int .i64 t348, .slice Ao1780351 t349.length co1780351, .slice Ao8122 t352.length co8122] 59 (0, 0)) (by (with_reducible repeat (first | refine bn_ ?_ _ | refine bw_ ?_ | refine ba_ ?_ _)); refine blk_put (cs := #[.int .i64 t347, .int .i64 t348, .slice Ao1780351 t349.length co1780351, .slice none 0 0]) ?_ 3 _ rfl; (with_reducible repeat (first | refine bn_ ?_ _ | refine bw_ ?_ | refine ba_ ?_ _)); refine blk_put (cs := #[.int .i64 t347, .int .i64 t348, .slice none 0 0, .slice none 0 0]) ?_ 2 _ rfl; (with_reducible repeat (first | refine bn_ ?_ _ | refine bw_ ?_ | refine ba_ ?_ _)); refine blk_put (cs := #[.int .i64 t347, .int .i64 0, .slice none 0 0, .slice none 0 0]) ?_ 1 _ rfl; (with_reducible repeat (first | refine bn_ ?_ _ | refine bw_ ?_ | refine ba_ ?_ _)); refine blk_put (cs := #[.int .i64 0, .int .i64 0, .slice none 0 0, .slice none 0 0]) ?_ 0 _ rfl; (with_reducible repeat (first | refine bn_ ?_ _ | refine bw_ ?_ | refine ba_ ?_ _)); exact BK355.out) hb); replace HB := mk_ (below_step (us_ HB.out) hb); obtain ⟨hcz1790355_0, hcz1790355_1, hcz1790355_2, hcz1790355_3, hfz1790355_0, hfz1790355_1, hfz1790355_2, hfz1790355_3⟩ := cells4_ BK355.out) | (go_at_call 37; (with_reducible refine (spec_EarRanges.calls k t347 t348 _ _ t349 _ _ t352 t359 _ ?side1 ?side2 ?side3 ?side4 A5.out).mono ?_); (case side1 => repeat (first | exact (Kd.R_reads' HO351.out).2.2 | (with_reducible refine Kd.C_alloc ?_ _) | (with_reducible refine Kd.C_drewN ?_ _) | (with_reducible refine Kd.C_drew ?_))); (case side2 => exact (Kd.R_reads' HO351.out).2.1); (case side3 => repeat (first | exact (Kd.Q_reads' HO354.out).2.2 | (with_reducible refine Kd.C_alloc ?_ _) | (with_reducible refine Kd.C_drewN ?_ _) | (with_reducible refine Kd.C_drew ?_))); (case side4 => exact (Kd.Q_reads' HO354.out).2.1); rintro e w8200 ⟨v8201, rfl, ho8083, hb⟩; replace HO351 := mk_ (Kd.R_below (Kd.ur_ HO351.out) hb); replace HO354 := mk_ (Kd.Q_below (by (with_reducible repeat (first | apply Kd.Q_alloc | apply Kd.Q_drewN | apply Kd.Q_drew)); exact HO354.out) hb); have n2_ := mk_ (Kd.R_elder' (Kd.ur_ HO358.out) (Kd.R_base ho8083) hb); have HO361 := mk_ (Kd.R_lower (Kd.R_new' ho8083 (Kd.R_lt (Kd.ur_ HO358.out))) (below_size (us_ HB.out))); replace BK355 := mk_ (blk_below (u_ BK355.out) hb); replace HB := mk_ (below_step (us_ HB.out) hb); replace HO358 := n2_; clear n2_; obtain ⟨Ao1800358, co1800358, eo1800358⟩ := Kd.R_slice HO358.out; subst eo1800358; obtain ⟨Ao1800361, co1800361, eo1800361⟩ := Kd.R_slice HO361.out; subst eo1800361) | (go_at_call 36; (with_reducible refine (laws_sameRanges.calls k _ _ t356 _ _ t359 true _ ?side1 ?side2 ?side3 ?side4 A6.out).mono ?_); (case side1 => repeat (first | exact (Kd.R_reads' HO358.out).2.2 | (with_reducible refine Kd.C_alloc ?_ _) | (with_reducible refine Kd.C_drewN ?_ _) | (with_reducible refine Kd.C_drew ?_))); (case side2 => exact (Kd.R_reads' HO358.out).2.1); (case side3 => repeat (first | exact (Kd.R_reads' HO361.out).2.2 | (with_reducible refine Kd.C_alloc ?_ _) | (with_reducible refine Kd.C_drewN ?_ _) | (with_reducible refine Kd.C_drew ?_))); (case side4 => exact (Kd.R_reads' HO361.out).2.1); rintro e w' ⟨rfl, ⟨nd, rfl⟩⟩; (try first | exact ⟨rfl, _, World.drewN_drewN _ _ _⟩ | exact ⟨rfl, _, Eq.trans (World.drewN_drewN _ _ _) (congrArg (World.drewN _) (Nat.add_assoc _ _ _))⟩); obtain ⟨hcz1830355_0, hcz1830355_1, hcz1830355_2, hcz1830355_3, hfz1830355_0, hfz1830355_1, hfz1830355_2, hfz1830355_3⟩ := cells4_ BK355.out) | (go_at_call 32; (with_reducible refine (impl_EarOk.calls k t347 t348 _ _ t349 _ _ t352 false _ ?side1 ?side2 ?side3 ?side4 A8.out).mono ?_); (case side1 => repeat (first | exact (Kd.R_reads' HO351.out).2.2 | (with_reducible refine Kd.C_alloc ?_ _) | (with_reducible refine Kd.C_drewN ?_ _) | (with_reducible refine Kd.C_drew ?_))); (case side2 => exact (Kd.R_reads' HO351.out).2.1); (case side3 => repeat (first | exact (Kd.Q_reads' HO354.out).2.2 | (with_reducible refine Kd.C_alloc ?_ _) | (with_reducible refine Kd.C_drewN ?_ _) | (with_reducible refine Kd.C_drew ?_))); (case side4 => exact (Kd.Q_reads' HO354.out).2.1); rintro e w8360 ⟨rfl, hb⟩; replace HO351 := mk_ (Kd.R_below (Kd.ur_ HO351.out) hb); replace HO354 := mk_ (Kd.Q_below (by (with_reducible repeat (first | apply Kd.Q_alloc | apply Kd.Q_drewN | apply Kd.Q_drew)); exact HO354.out) hb); replace HO358 := mk_ (Kd.R_below (Kd.ur_ HO358.out) hb); replace HO361 := mk_ (Kd.R_below (Kd.ur_ HO361.out) hb); replace BK355 := mk_ (blk_below (u_ BK355.out) hb); replace HB := mk_ (below_step (us_ HB.out) hb))); try go_wp2_with (first | (go_at_call 34; (with_reducible refine (spec_DrawEarRanges.calls k _ _ l0 t347 t348 t349 t352 _ ?side1 ?side2 A3.out).mono ?_); (case side1 => repeat (first | exact HR0.out | (with_reducible refine Kd.C_alloc ?_ _) | (with_reducible refine Kd.C_drewN ?_ _) | (with_reducible refine Kd.C_drew ?_))); (case side2 => exact HC0.out); rintro e w8080 ⟨v8081, v8082, rfl, ho8083, ho8084, hb⟩; have HO351 := mk_ (Kd.R_lower ho8083 (below_size (ub_ HB.out))); have HO354 := mk_ (Kd.Q_lower ho8084 (below_size (ub_ HB.out))); replace HB := mk_ (below_step (ub_ HB.out) hb)) | ((with_reducible refine gate_dst (N := 3) rfl ?_); refine box_event ?hg (N := 3) ?hd (cs := #[.int .i64 0, .int .i64 0, .slice none 0 0, .slice none 0 0]) (t := 59) ?hr ?_; (case hd => rfl); (case hg => rfl); (case hr => first | (go_simp; done) | (go_simp; rfl)); intro gb8120 hg w8121 hbox hb; replace HO351 := mk_ (Kd.R_below (Kd.ur_ HO351.out) hb); replace HO354 := mk_ (Kd.Q_below (by (with_reducible repeat (first | apply Kd.Q_alloc | apply Kd.Q_drewN | apply Kd.Q_drew)); exact HO354.out) hb); have n2_ := mk_ (below_step (ub_ HB.out) hb); have BK355 := mk_ (hbox); have GW355 := mk_ ((by rw [hg]; exact (below_size (ub_ HB.out)) : w.heap.size ≤ gb8120)); have GE355 := ge_ ((by rw [hg]; exact (below_size (ub_ HB.out)) : w.heap.size ≤ gb8120)); replace HB := n2_; clear n2_; clear hb hbox hg; obtain ⟨hcz1780355_0, hcz1780355_1, hcz1780355_2, hcz1780355_3, hfz1780355_0, hfz1780355_1, hfz1780355_2, hfz1780355_3⟩ := cells4_ BK355.out; obtain ⟨Ao1780351, co1780351, eo1780351⟩ := Kd.R_slice HO351.out; subst eo1780351; obtain ⟨Ao8122, co8122, eo8122, _⟩ := Kd.Q_slice HO354.out; subst eo8122) | (go_at_call 35; (with_reducible refine (impl_EarRanges.calls k t347 t348 _ _ t349 _ _ t352 t356 _ ?side1 ?side2 ?side3 ?side4 A4.out).mono ?_); (case side1 => refine (Kd.R_reads' (e := 5) (base := w.heap.size) (ok := fun k_ => True) (n := t349.length) (c := co1780351) ?_).2.2; exact (by (with_reducible repeat (first | apply Kd.R_alloc | apply Kd.R_drewN | apply Kd.R_drew)); exact (Kd.R_mono (Kd.R_far (p := ⟨gb8120, 3, none⟩) (Kd.R_far (p := ⟨gb8120, 2, none⟩) (Kd.R_far (p := ⟨gb8120, 1, none⟩) (Kd.R_far (p := ⟨gb8120, 0, none⟩) (Kd.R_types HO351.out BK355.out (by decide)) (fun _ hk => hk.2) (.int .i64 t347)) (fun _ hk => hk.2) (.int .i64 t348)) (fun _ hk => hk.2) (.slice Ao1780351 t349.length co1780351)) (fun _ hk => hk.2) (.slice Ao8122 t352.length co8122)) (fun _ h_ => by first | exact h_.1 | simp only [h_, ne_eq, not_false_eq_true, and_self])))); (case side2 => exact (Kd.R_reads' HO351.out).2.1); (case side3 => refine (Kd.Q_reads' (e := 68) (base := w.heap.size) (ok := fun k_ => True) (n := t352.length) (c := co8122) ?_).2.2; exact (by (with_reducible repeat (first | apply Kd.Q_alloc | apply Kd.Q_drewN | apply Kd.Q_drew)); exact (Kd.Q_mono (Kd.Q_far (p := ⟨gb8120, 3, none⟩) (Kd.Q_far (p := ⟨gb8120, 2, none⟩) (Kd.Q_far (p := ⟨gb8120, 1, none⟩) (Kd.Q_far (p := ⟨gb8120, 0, none⟩) (Kd.Q_types HO354.out BK355.out (by decide)) (fun _ hk => hk.2) (.int .i64 t347)) (fun _ hk => hk.2) (.int .i64 t348)) (fun _ hk => hk.2) (.slice Ao1780351 t349.length co1780351)) (fun _ hk => hk.2) (.slice Ao8122 t352.length co8122)) (fun _ h_ => by first | exact h_.1 | simp only [h_, ne_eq, not_false_eq_true, and_self])))); (case side4 => exact (Kd.Q_reads' HO354.out).2.1); rintro e w8160 ⟨v8161, rfl, ho8083, hb⟩; replace HO351 := mk_ (Kd.R_below (by (with_reducible repeat (first | apply Kd.R_alloc | apply Kd.R_drewN | apply Kd.R_drew)); exact (Kd.R_mono (Kd.R_far (p := ⟨gb8120, 3, none⟩) (Kd.R_far (p := ⟨gb8120, 2, none⟩) (Kd.R_far (p := ⟨gb8120, 1, none⟩) (Kd.R_far (p := ⟨gb8120, 0, none⟩) (Kd.R_types HO351.out BK355.out (by decide)) (fun _ hk => hk.2) (.int .i64 t347)) (fun _ hk => hk.2) (.int .i64 t348)) (fun _ hk => hk.2) (.slice Ao1780351 t349.length co1780351)) (fun _ hk => hk.2) (.slice Ao8122 t352.length co8122)) (fun _ h_ => by first | exact h_.1 | simp only [h_, ne_eq, not_false_eq_true, and_self]))) hb); replace HO354 := mk_ (Kd.Q_below (by (with_reducible repeat (first | apply Kd.Q_alloc | apply Kd.Q_drewN | apply Kd.Q_drew)); exact (Kd.Q_mono (Kd.Q_far (p := ⟨gb8120, 3, none⟩) (Kd.Q_far (p := ⟨gb8120, 2, none⟩) (Kd.Q_far (p := ⟨gb8120, 1, none⟩) (Kd.Q_far (p := ⟨gb8120, 0, none⟩) (Kd.Q_types HO354.out BK355.out (by decide)) (fun _ hk => hk.2) (.int .i64 t347)) (fun _ hk => hk.2) (.int .i64 t348)) (fun _ hk => hk.2) (.slice Ao1780351 t349.length co1780351)) (fun _ hk => hk.2) (.slice Ao8122 t352.length co8122)) (fun _ h_ => by first | exact h_.1 | simp only [h_, ne_eq, not_false_eq_true, and_self]))) hb); have HO358 := mk_ (Kd.R_lower ho8083 (below_size (us_ HB.out))); replace BK355 := mk_ (blk_below (g := gb8120) (o := .cells #[.int .i64 t347, .int .i64 t348, .slice Ao1780351 t349.length co1780351, .slice Ao8122 t352.length co8122] 59 (0, 0)) (by (with_reducible repeat (first | refine bn_ ?_ _ | refine bw_ ?_ | refine ba_ ?_ _)); refine blk_put (cs := #[.int .i64 t347, .int .i64 t348, .slice Ao1780351 t349.length co1780351, .slice none 0 0]) ?_ 3 _ rfl; (with_reducible repeat (first | refine bn_ ?_ _ | refine bw_ ?_ | refine ba_ ?_ _)); refine blk_put (cs := #[.int .i64 t347, .int .i64 t348, .slice none 0 0, .slice none 0 0]) ?_ 2 _ rfl; (with_reducible repeat (first | refine bn_ ?_ _ | refine bw_ ?_ | refine ba_ ?_ _)); refine blk_put (cs := #[.int .i64 t347, .int .i64 0, .slice none 0 0, .slice none 0 0]) ?_ 1 _ rfl; (with_reducible repeat (first | refine bn_ ?_ _ | refine bw_ ?_ | refine ba_ ?_ _)); refine blk_put (cs := #[.int .i64 0, .int .i64 0, .slice none 0 0, .slice none 0 0]) ?_ 0 _ rfl; (with_reducible repeat (first | refine bn_ ?_ _ | refine bw_ ?_ | refine ba_ ?_ _)); exact BK355.out) hb); replace HB := mk_ (below_step (us_ HB.out) hb); obtain ⟨hcz1790355_0, hcz1790355_1, hcz1790355_2, hcz1790355_3, hfz1790355_0, hfz1790355_1, hfz1790355_2, hfz1790355_3⟩ := cells4_ BK355.out) | (go_at_call 37; (with_reducible refine (spec_EarRanges.calls k t347 t348 _ _ t349 _ _ t352 t359 _ ?side1 ?side2 ?side3 ?side4 A5.out).mono ?_); (case side1 => repeat (first | exact (Kd.R_reads' HO351.out).2.2 | (with_reducible refine Kd.C_alloc ?_ _) | (with_reducible refine Kd.C_drewN ?_ _) | (with_reducible refine Kd.C_drew ?_))); (case side2 => exact (Kd.R_reads' HO351.out).2.1); (case side3 => repeat (first | exact (Kd.Q_reads' HO354.out).2.2 | (with_reducible refine Kd.C_alloc ?_ _) | (with_reducible refine Kd.C_drewN ?_ _) | (with_reducible refine Kd.C_drew ?_))); (case side4 => exact (Kd.Q_reads' HO354.out).2.1); rintro e w8200 ⟨v8201, rfl, ho8083, hb⟩; replace HO351 := mk_ (Kd.R_below (Kd.ur_ HO351.out) hb); replace HO354 := mk_ (Kd.Q_below (by (with_reducible repeat (first | apply Kd.Q_alloc | apply Kd.Q_drewN | apply Kd.Q_drew)); exact HO354.out) hb); have n2_ := mk_ (Kd.R_elder' (Kd.ur_ HO358.out) (Kd.R_base ho8083) hb); have HO361 := mk_ (Kd.R_lower (Kd.R_new' ho8083 (Kd.R_lt (Kd.ur_ HO358.out))) (below_size (us_ HB.out))); replace BK355 := mk_ (blk_below (u_ BK355.out) hb); replace HB := mk_ (below_step (us_ HB.out) hb); replace HO358 := n2_; clear n2_; obtain ⟨Ao1800358, co1800358, eo1800358⟩ := Kd.R_slice HO358.out; subst eo1800358; obtain ⟨Ao1800361, co1800361, eo1800361⟩ := Kd.R_slice HO361.out; subst eo1800361) | (go_at_call 36; (with_reducible refine (laws_sameRanges.calls k _ _ t356 _ _ t359 true _ ?side1 ?side2 ?side3 ?side4 A6.out).mono ?_); (case side1 => repeat (first | exact (Kd.R_reads' HO358.out).2.2 | (with_reducible refine Kd.C_alloc ?_ _) | (with_reducible refine Kd.C_drewN ?_ _) | (with_reducible refine Kd.C_drew ?_))); (case side2 => exact (Kd.R_reads' HO358.out).2.1); (case side3 => repeat (first | exact (Kd.R_reads' HO361.out).2.2 | (with_reducible refine Kd.C_alloc ?_ _) | (with_reducible refine Kd.C_drewN ?_ _) | (with_reducible refine Kd.C_drew ?_))); (case side4 => exact (Kd.R_reads' HO361.out).2.1); rintro e w' ⟨rfl, ⟨nd, rfl⟩⟩; (try first | exact ⟨rfl, _, World.drewN_drewN _ _ _⟩ | exact ⟨rfl, _, Eq.trans (World.drewN_drewN _ _ _) (congrArg (World.drewN _) (Nat.add_assoc _ _ _))⟩); obtain ⟨hcz1830355_0, hcz1830355_1, hcz1830355_2, hcz1830355_3, hfz1830355_0, hfz1830355_1, hfz1830355_2, hfz1830355_3⟩ := cells4_ BK355.out) | (go_at_call 32; (with_reducible refine (impl_EarOk.calls k t347 t348 _ _ t349 _ _ t352 false _ ?side1 ?side2 ?side3 ?side4 A8.out).mono ?_); (case side1 => repeat (first | exact (Kd.R_reads' HO351.out).2.2 | (with_reducible refine Kd.C_alloc ?_ _) | (with_reducible refine Kd.C_drewN ?_ _) | (with_reducible refine Kd.C_drew ?_))); (case side2 => exact (Kd.R_reads' HO351.out).2.1); (case side3 => repeat (first | exact (Kd.Q_reads' HO354.out).2.2 | (with_reducible refine Kd.C_alloc ?_ _) | (with_reducible refine Kd.C_drewN ?_ _) | (with_reducible refine Kd.C_drew ?_))); (case side4 => exact (Kd.Q_reads' HO354.out).2.1); rintro e w8360 ⟨rfl, hb⟩; replace HO351 := mk_ (Kd.R_below (Kd.ur_ HO351.out) hb); replace HO354 := mk_ (Kd.Q_below (by (with_reducible repeat (first | apply Kd.Q_alloc | apply Kd.Q_drewN | apply Kd.Q_drew)); exact HO354.out) hb); replace HO358 := mk_ (Kd.R_below (Kd.ur_ HO358.out) hb); replace HO361 := mk_ (Kd.R_below (Kd.ur_ HO361.out) hb); replace BK355 := mk_ (blk_below (u_ BK355.out) hb); replace HB := mk_ (below_step (us_ HB.out) hb))))
  go_ret
  exact ⟨by first | rfl | (simp [errW_none, errW_some] <;> rfl) | (simp [*, errW_none, errW_some] <;> rfl), us_ HB.out⟩
 ·repeat (go_quiet (first | (go_at_call 34; (with_reducible refine (spec_DrawEarRanges.calls k _ _ l0 t347 t348 t349 t352 _ ?side1 ?side2 A3.out).mono ?_); (case side1 => repeat (first | exact HR0.out | (with_reducible refine Kd.C_alloc ?_ _) | (with_reducible refine Kd.C_drewN ?_ _) | (with_reducible refine Kd.C_drew ?_))); (case side2 => exact HC0.out); rintro e w8080 ⟨v8081, v8082, rfl, ho8083, ho8084, hb⟩; have HO351 := mk_ (Kd.R_lower ho8083 (below_size (ub_ HB.out))); have HO354 := mk_ (Kd.Q_lower ho8084 (below_size (ub_ HB.out))); replace HB := mk_ (below_step (ub_ HB.out) hb)) | ((with_reducible refine gate_dst (N := 3) rfl ?_); refine box_event ?hg (N := 3) ?hd (cs := #[.int .i64 0, .int .i64 0, .slice none 0 0, .slice none 0 0]) (t := 59) ?hr ?_; (case hd => rfl); (case hg => rfl); (case hr => first | (go_simp; done) | (go_simp; rfl)); intro gb8120 hg w8121 hbox hb; replace HO351 := mk_ (Kd.R_below (Kd.ur_ HO351.out) hb); replace HO354 := mk_ (Kd.Q_below (by (with_reducible repeat (first | apply Kd.Q_alloc | apply Kd.Q_drewN | apply Kd.Q_drew)); exact HO354.out) hb); have n2_ := mk_ (below_step (ub_ HB.out) hb); have BK355 := mk_ (hbox); have GW355 := mk_ ((by rw [hg]; exact (below_size (ub_ HB.out)) : w.heap.size ≤ gb8120)); have GE355 := ge_ ((by rw [hg]; exact (below_size (ub_ HB.out)) : w.heap.size ≤ gb8120)); replace HB := n2_; clear n2_; clear hb hbox hg; obtain ⟨hcz1780355_0, hcz1780355_1, hcz1780355_2, hcz1780355_3, hfz1780355_0, hfz1780355_1, hfz1780355_2, hfz1780355_3⟩ := cells4_ BK355.out; obtain ⟨Ao1780351, co1780351, eo1780351⟩ := Kd.R_slice HO351.out; subst eo1780351; obtain ⟨Ao8122, co8122, eo8122, _⟩ := Kd.Q_slice HO354.out; subst eo8122) | (go_at_call 35; (with_reducible refine (impl_EarRanges.calls k t347 t348 _ _ t349 _ _ t352 t356 _ ?side1 ?side2 ?side3 ?side4 A4.out).mono ?_); (case side1 => refine (Kd.R_reads' (e := 5) (base := w.heap.size) (ok := fun k_ => True) (n := t349.length) (c := co1780351) ?_).2.2; exact (by (with_reducible repeat (first | apply Kd.R_alloc | apply Kd.R_drewN | apply Kd.R_drew)); exact (Kd.R_mono (Kd.R_far (p := ⟨gb8120, 3, none⟩) (Kd.R_far (p := ⟨gb8120, 2, none⟩) (Kd.R_far (p := ⟨gb8120, 1, none⟩) (Kd.R_far (p := ⟨gb8120, 0, none⟩) (Kd.R_types HO351.out BK355.out (by decide)) (fun _ hk => hk.2) (.int .i64 t347)) (fun _ hk => hk.2) (.int .i64 t348)) (fun _ hk => hk.2) (.slice Ao1780351 t349.length co1780351)) (fun _ hk => hk.2) (.slice Ao8122 t352.length co8122)) (fun _ h_ => by first | exact h_.1 | simp only [h_, ne_eq, not_false_eq_true, and_self])))); (case side2 => exact (Kd.R_reads' HO351.out).2.1); (case side3 => refine (Kd.Q_reads' (e := 68) (base := w.heap.size) (ok := fun k_ => True) (n := t352.length) (c := co8122) ?_).2.2; exact (by (with_reducible repeat (first | apply Kd.Q_alloc | apply Kd.Q_drewN | apply Kd.Q_drew)); exact (Kd.Q_mono (Kd.Q_far (p := ⟨gb8120, 3, none⟩) (Kd.Q_far (p := ⟨gb8120, 2, none⟩) (Kd.Q_far (p := ⟨gb8120, 1, none⟩) (Kd.Q_far (p := ⟨gb8120, 0, none⟩) (Kd.Q_types HO354.out BK355.out (by decide)) (fun _ hk => hk.2) (.int .i64 t347)) (fun _ hk => hk.2) (.int .i64 t348)) (fun _ hk => hk.2) (.slice Ao1780351 t349.length co1780351)) (fun _ hk => hk.2) (.slice Ao8122 t352.length co8122)) (fun _ h_ => by first | exact h_.1 | simp only [h_, ne_eq, not_false_eq_true, and_self])))); (case side4 => exact (Kd.Q_reads' HO354.out).2.1); rintro e w8160 ⟨v8161, rfl, ho8083, hb⟩; replace HO351 := mk_ (Kd.R_below (by (with_reducible repeat (first | apply Kd.R_alloc | apply Kd.R_drewN | apply Kd.R_drew)); exact (Kd.R_mono (Kd.R_far (p := ⟨gb8120, 3, none⟩) (Kd.R_far (p := ⟨gb8120, 2, none⟩) (Kd.R_far (p := ⟨gb8120, 1, none⟩) (Kd.R_far (p := ⟨gb8120, 0, none⟩) (Kd.R_types HO351.out BK355.out (by decide)) (fun _ hk => hk.2) (.int .i64 t347)) (fun _ hk => hk.2) (.int .i64 t348)) (fun _ hk => hk.2) (.slice Ao1780351 t349.length co1780351)) (fun _ hk => hk.2) (.slice Ao8122 t352.length co8122)) (fun _ h_ => by first | exact h_.1 | simp only [h_, ne_eq, not_false_eq_true, and_self]))) hb); replace HO354 := mk_ (Kd.Q_below (by (with_reducible repeat (first | apply Kd.Q_alloc | apply Kd.Q_drewN | apply Kd.Q_drew)); exact (Kd.Q_mono (Kd.Q_far (p := ⟨gb8120, 3, none⟩) (Kd.Q_far (p := ⟨gb8120, 2, none⟩) (Kd.Q_far (p := ⟨gb8120, 1, none⟩) (Kd.Q_far (p := ⟨gb8120, 0, none⟩) (Kd.Q_types HO354.out BK355.out (by decide)) (fun _ hk => hk.2) (.int .i64 t347)) (fun _ hk => hk.2) (.int .i64 t348)) (fun _ hk => hk.2) (.slice Ao1780351 t349.length co1780351)) (fun _ hk => hk.2) (.slice Ao8122 t352.length co8122)) (fun _ h_ => by first | exact h_.1 | simp only [h_, ne_eq, not_false_eq_true, and_self]))) hb); have HO358 := mk_ (Kd.R_lower ho8083 (below_size (us_ HB.out))); replace BK355 := mk_ (blk_below (g := gb8120) (o := .cells #[.int .i64 t347, .int .i64 t348, .slice Ao1780351 t349.length co1780351, .slice Ao8122 t352.length co8122] 59 (0, 0)) (by (with_reducible repeat (first | refine bn_ ?_ _ | refine bw_ ?_ | refine ba_ ?_ _)); refine blk_put (cs := #[.int .i64 t347, .int .i64 t348, .slice Ao1780351 t349.length co1780351, .slice none 0 0]) ?_ 3 _ rfl; (with_reducible repeat (first | refine bn_ ?_ _ | refine bw_ ?_ | refine ba_ ?_ _)); refine blk_put (cs := #[.int .i64 t347, .int .i64 t348, .slice none 0 0, .slice none 0 0]) ?_ 2 _ rfl; (with_reducible repeat (first | refine bn_ ?_ _ | refine bw_ ?_ | refine ba_ ?_ _)); refine blk_put (cs := #[.int .i64 t347, .int .i64 0, .slice none 0 0, .slice none 0 0]) ?_ 1 _ rfl; (with_reducible repeat (first | refine bn_ ?_ _ | refine bw_ ?_ | refine ba_ ?_ _)); refine blk_put (cs := #[.int .i64 0, .int .i64 0, .slice none 0 0, .slice none 0 0]) ?_ 0 _ rfl; (with_reducible repeat (first | refine bn_ ?_ _ | refine bw_ ?_ | refine ba_ ?_ _)); exact BK355.out) hb); replace HB := mk_ (below_step (us_ HB.out) hb); obtain ⟨hcz1790355_0, hcz1790355_1, hcz1790355_2, hcz1790355_3, hfz1790355_0, hfz1790355_1, hfz1790355_2, hfz1790355_3⟩ := cells4_ BK355.out) | (go_at_call 37; (with_reducible refine (spec_EarRanges.calls k t347 t348 _ _ t349 _ _ t352 t359 _ ?side1 ?side2 ?side3 ?side4 A5.out).mono ?_); (case side1 => repeat (first | exact (Kd.R_reads' HO351.out).2.2 | (with_reducible refine Kd.C_alloc ?_ _) | (with_reducible refine Kd.C_drewN ?_ _) | (with_reducible refine Kd.C_drew ?_))); (case side2 => exact (Kd.R_reads' HO351.out).2.1); (case side3 => repeat (first | exact (Kd.Q_reads' HO354.out).2.2 | (with_reducible refine Kd.C_alloc ?_ _) | (with_reducible refine Kd.C_drewN ?_ _) | (with_reducible refine Kd.C_drew ?_))); (case side4 => exact (Kd.Q_reads' HO354.out).2.1); rintro e w8200 ⟨v8201, rfl, ho8083, hb⟩; replace HO351 := mk_ (Kd.R_below (Kd.ur_ HO351.out) hb); replace HO354 := mk_ (Kd.Q_below (by (with_reducible repeat (first | apply Kd.Q_alloc | apply Kd.Q_drewN | apply Kd.Q_drew)); exact HO354.out) hb); have n2_ := mk_ (Kd.R_elder' (Kd.ur_ HO358.out) (Kd.R_base ho8083) hb); have HO361 := mk_ (Kd.R_lower (Kd.R_new' ho8083 (Kd.R_lt (Kd.ur_ HO358.out))) (below_size (us_ HB.out))); replace BK355 := mk_ (blk_below (u_ BK355.out) hb); replace HB := mk_ (below_step (us_ HB.out) hb); replace HO358 := n2_; clear n2_; obtain ⟨Ao1800358, co1800358, eo1800358⟩ := Kd.R_slice HO358.out; subst eo1800358; obtain ⟨Ao1800361, co1800361, eo1800361⟩ := Kd.R_slice HO361.out; subst eo1800361) | (go_at_call 36; (with_reducible refine (laws_sameRanges.calls k _ _ t356 _ _ t359 true _ ?side1 ?side2 ?side3 ?side4 A6.out).mono ?_); (case side1 => repeat (first | exact (Kd.R_reads' HO358.out).2.2 | (with_reducible refine Kd.C_alloc ?_ _) | (with_reducible refine Kd.C_drewN ?_ _) | (with_reducible refine Kd.C_drew ?_))); (case side2 => exact (Kd.R_reads' HO358.out).2.1); (case side3 => repeat (first | exact (Kd.R_reads' HO361.out).2.2 | (with_reducible refine Kd.C_alloc ?_ _) | (with_reducible refine Kd.C_drewN ?_ _) | (with_reducible refine Kd.C_drew ?_))); (case side4 => exact (Kd.R_reads' HO361.out).2.1); rintro e w' ⟨rfl, ⟨nd, rfl⟩⟩; (try first | exact ⟨rfl, _, World.drewN_drewN _ _ _⟩ | exact ⟨rfl, _, Eq.trans (World.drewN_drewN _ _ _) (congrArg (World.drewN _) (Nat.add_assoc _ _ _))⟩); obtain ⟨hcz1830355_0, hcz1830355_1, hcz1830355_2, hcz1830355_3, hfz1830355_0, hfz1830355_1, hfz1830355_2, hfz1830355_3⟩ := cells4_ BK355.out) | (go_at_call 32; (with_reducible refine (impl_EarOk.calls k t347 t348 _ _ t349 _ _ t352 false _ ?side1 ?side2 ?side3 ?side4 A8.out).mono ?_); (case side1 => repeat (first | exact (Kd.R_reads' HO351.out).2.2 | (with_reducible refine Kd.C_alloc ?_ _) | (with_reducible refine Kd.C_drewN ?_ _) | (with_reducible refine Kd.C_drew ?_))); (case side2 => exact (Kd.R_reads' HO351.out).2.1); (case side3 => repeat (first | exact (Kd.Q_reads' HO354.out).2.2 | (with_reducible refine Kd.C_alloc ?_ _) | (with_reducible refine Kd.C_drewN ?_ _) | (with_reducible refine Kd.C_drew ?_))); (case side4 => exact (Kd.Q_reads' HO354.out).2.1); rintro e w8360 ⟨rfl, hb⟩; replace HO351 := mk_ (Kd.R_below (Kd.ur_ HO351.out) hb); replace HO354 := mk_ (Kd.Q_below (by (with_reducible repeat (first | apply Kd.Q_alloc | apply Kd.Q_drewN | apply Kd.Q_drew)); exact HO354.out) hb); replace HO358 := mk_ (Kd.R_below (Kd.ur_ HO358.out) hb); replace HO361 := mk_ (Kd.R_below (Kd.ur_ HO361.out) hb); replace BK355 := mk_ (blk_below (u_ BK355.out) hb); replace HB := mk_ (below_step (us_ HB.out) hb)) | (go_at_call 13; (with_reducible refine (laws_alive.calls k  t364 _ A55.out).mono ?_); rintro e w8400 ⟨rfl, hb⟩; replace HO351 := mk_ (Kd.R_below (Kd.ur_ HO351.out) hb); replace HO354 := mk_ (Kd.Q_below (by (with_reducible repeat (first | apply Kd.Q_alloc | apply Kd.Q_drewN | apply Kd.Q_drew)); exact HO354.out) hb); replace HO358 := mk_ (Kd.R_below (Kd.ur_ HO358.out) hb); replace HO361 := mk_ (Kd.R_below (Kd.ur_ HO361.out) hb); replace BK355 := mk_ (blk_below (u_ BK355.out) hb); replace HB := mk_ (below_step (us_ HB.out) hb))); try go_wp2_with (first | (go_at_call 34; (with_reducible refine (spec_DrawEarRanges.calls k _ _ l0 t347 t348 t349 t352 _ ?side1 ?side2 A3.out).mono ?_); (case side1 => repeat (first | exact HR0.out | (with_reducible refine Kd.C_alloc ?_ _) | (with_reducible refine Kd.C_drewN ?_ _) | (with_reducible refine Kd.C_drew ?_))); (case side2 => exact HC0.out); rintro e w8080 ⟨v8081, v8082, rfl, ho8083, ho8084, hb⟩; have HO351 := mk_ (Kd.R_lower ho8083 (below_size (ub_ HB.out))); have HO354 := mk_ (Kd.Q_lower ho8084 (below_size (ub_ HB.out))); replace HB := mk_ (below_step (ub_ HB.out) hb)) | ((with_reducible refine gate_dst (N := 3) rfl ?_); refine box_event ?hg (N := 3) ?hd (cs := #[.int .i64 0, .int .i64 0, .slice none 0 0, .slice none 0 0]) (t := 59) ?hr ?_; (case hd => rfl); (case hg => rfl); (case hr => first | (go_simp; done) | (go_simp; rfl)); intro gb8120 hg w8121 hbox hb; replace HO351 := mk_ (Kd.R_below (Kd.ur_ HO351.out) hb); replace HO354 := mk_ (Kd.Q_below (by (with_reducible repeat (first | apply Kd.Q_alloc | apply Kd.Q_drewN | apply Kd.Q_drew)); exact HO354.out) hb); have n2_ := mk_ (below_step (ub_ HB.out) hb); have BK355 := mk_ (hbox); have GW355 := mk_ ((by rw [hg]; exact (below_size (ub_ HB.out)) : w.heap.size ≤ gb8120)); have GE355 := ge_ ((by rw [hg]; exact (below_size (ub_ HB.out)) : w.heap.size ≤ gb8120)); replace HB := n2_; clear n2_; clear hb hbox hg; obtain ⟨hcz1780355_0, hcz1780355_1, hcz1780355_2, hcz1780355_3, hfz1780355_0, hfz1780355_1, hfz1780355_2, hfz1780355_3⟩ := cells4_ BK355.out; obtain ⟨Ao1780351, co1780351, eo1780351⟩ := Kd.R_slice HO351.out; subst eo1780351; obtain ⟨Ao8122, co8122, eo8122, _⟩ := Kd.Q_slice HO354.out; subst eo8122) | (go_at_call 35; (with_reducible refine (impl_EarRanges.calls k t347 t348 _ _ t349 _ _ t352 t356 _ ?side1 ?side2 ?side3 ?side4 A4.out).mono ?_); (case side1 => refine (Kd.R_reads' (e := 5) (base := w.heap.size) (ok := fun k_ => True) (n := t349.length) (c := co1780351) ?_).2.2; exact (by (with_reducible repeat (first | apply Kd.R_alloc | apply Kd.R_drewN | apply Kd.R_drew)); exact (Kd.R_mono (Kd.R_far (p := ⟨gb8120, 3, none⟩) (Kd.R_far (p := ⟨gb8120, 2, none⟩) (Kd.R_far (p := ⟨gb8120, 1, none⟩) (Kd.R_far (p := ⟨gb8120, 0, none⟩) (Kd.R_types HO351.out BK355.out (by decide)) (fun _ hk => hk.2) (.int .i64 t347)) (fun _ hk => hk.2) (.int .i64 t348)) (fun _ hk => hk.2) (.slice Ao1780351 t349.length co1780351)) (fun _ hk => hk.2) (.slice Ao8122 t352.length co8122)) (fun _ h_ => by first | exact h_.1 | simp only [h_, ne_eq, not_false_eq_true, and_self])))); (case side2 => exact (Kd.R_reads' HO351.out).2.1); (case side3 => refine (Kd.Q_reads' (e := 68) (base := w.heap.size) (ok := fun k_ => True) (n := t352.length) (c := co8122) ?_).2.2; exact (by (with_reducible repeat (first | apply Kd.Q_alloc | apply Kd.Q_drewN | apply Kd.Q_drew)); exact (Kd.Q_mono (Kd.Q_far (p := ⟨gb8120, 3, none⟩) (Kd.Q_far (p := ⟨gb8120, 2, none⟩) (Kd.Q_far (p := ⟨gb8120, 1, none⟩) (Kd.Q_far (p := ⟨gb8120, 0, none⟩) (Kd.Q_types HO354.out BK355.out (by decide)) (fun _ hk => hk.2) (.int .i64 t347)) (fun _ hk => hk.2) (.int .i64 t348)) (fun _ hk => hk.2) (.slice Ao1780351 t349.length co1780351)) (fun _ hk => hk.2) (.slice Ao8122 t352.length co8122)) (fun _ h_ => by first | exact h_.1 | simp only [h_, ne_eq, not_false_eq_true, and_self])))); (case side4 => exact (Kd.Q_reads' HO354.out).2.1); rintro e w8160 ⟨v8161, rfl, ho8083, hb⟩; replace HO351 := mk_ (Kd.R_below (by (with_reducible repeat (first | apply Kd.R_alloc | apply Kd.R_drewN | apply Kd.R_drew)); exact (Kd.R_mono (Kd.R_far (p := ⟨gb8120, 3, none⟩) (Kd.R_far (p := ⟨gb8120, 2, none⟩) (Kd.R_far (p := ⟨gb8120, 1, none⟩) (Kd.R_far (p := ⟨gb8120, 0, none⟩) (Kd.R_types HO351.out BK355.out (by decide)) (fun _ hk => hk.2) (.int .i64 t347)) (fun _ hk => hk.2) (.int .i64 t348)) (fun _ hk => hk.2) (.slice Ao1780351 t349.length co1780351)) (fun _ hk => hk.2) (.slice Ao8122 t352.length co8122)) (fun _ h_ => by first | exact h_.1 | simp only [h_, ne_eq, not_false_eq_true, and_self]))) hb); replace HO354 := mk_ (Kd.Q_below (by (with_reducible repeat (first | apply Kd.Q_alloc | apply Kd.Q_drewN | apply Kd.Q_drew)); exact (Kd.Q_mono (Kd.Q_far (p := ⟨gb8120, 3, none⟩) (Kd.Q_far (p := ⟨gb8120, 2, none⟩) (Kd.Q_far (p := ⟨gb8120, 1, none⟩) (Kd.Q_far (p := ⟨gb8120, 0, none⟩) (Kd.Q_types HO354.out BK355.out (by decide)) (fun _ hk => hk.2) (.int .i64 t347)) (fun _ hk => hk.2) (.int .i64 t348)) (fun _ hk => hk.2) (.slice Ao1780351 t349.length co1780351)) (fun _ hk => hk.2) (.slice Ao8122 t352.length co8122)) (fun _ h_ => by first | exact h_.1 | simp only [h_, ne_eq, not_false_eq_true, and_self]))) hb); have HO358 := mk_ (Kd.R_lower ho8083 (below_size (us_ HB.out))); replace BK355 := mk_ (blk_below (g := gb8120) (o := .cells #[.int .i64 t347, .int .i64 t348, .slice Ao1780351 t349.length co1780351, .slice Ao8122 t352.length co8122] 59 (0, 0)) (by (with_reducible repeat (first | refine bn_ ?_ _ | refine bw_ ?_ | refine ba_ ?_ _)); refine blk_put (cs := #[.int .i64 t347, .int .i64 t348, .slice Ao1780351 t349.length co1780351, .slice none 0 0]) ?_ 3 _ rfl; (with_reducible repeat (first | refine bn_ ?_ _ | refine bw_ ?_ | refine ba_ ?_ _)); refine blk_put (cs := #[.int .i64 t347, .int .i64 t348, .slice none 0 0, .slice none 0 0]) ?_ 2 _ rfl; (with_reducible repeat (first | refine bn_ ?_ _ | refine bw_ ?_ | refine ba_ ?_ _)); refine blk_put (cs := #[.int .i64 t347, .int .i64 0, .slice none 0 0, .slice none 0 0]) ?_ 1 _ rfl; (with_reducible repeat (first | refine bn_ ?_ _ | refine bw_ ?_ | refine ba_ ?_ _)); refine blk_put (cs := #[.int .i64 0, .int .i64 0, .slice none 0 0, .slice none 0 0]) ?_ 0 _ rfl; (with_reducible repeat (first | refine bn_ ?_ _ | refine bw_ ?_ | refine ba_ ?_ _)); exact BK355.out) hb); replace HB := mk_ (below_step (us_ HB.out) hb); obtain ⟨hcz1790355_0, hcz1790355_1, hcz1790355_2, hcz1790355_3, hfz1790355_0, hfz1790355_1, hfz1790355_2, hfz1790355_3⟩ := cells4_ BK355.out) | (go_at_call 37; (with_reducible refine (spec_EarRanges.calls k t347 t348 _ _ t349 _ _ t352 t359 _ ?side1 ?side2 ?side3 ?side4 A5.out).mono ?_); (case side1 => repeat (first | exact (Kd.R_reads' HO351.out).2.2 | (with_reducible refine Kd.C_alloc ?_ _) | (with_reducible refine Kd.C_drewN ?_ _) | (with_reducible refine Kd.C_drew ?_))); (case side2 => exact (Kd.R_reads' HO351.out).2.1); (case side3 => repeat (first | exact (Kd.Q_reads' HO354.out).2.2 | (with_reducible refine Kd.C_alloc ?_ _) | (with_reducible refine Kd.C_drewN ?_ _) | (with_reducible refine Kd.C_drew ?_))); (case side4 => exact (Kd.Q_reads' HO354.out).2.1); rintro e w8200 ⟨v8201, rfl, ho8083, hb⟩; replace HO351 := mk_ (Kd.R_below (Kd.ur_ HO351.out) hb); replace HO354 := mk_ (Kd.Q_below (by (with_reducible repeat (first | apply Kd.Q_alloc | apply Kd.Q_drewN | apply Kd.Q_drew)); exact HO354.out) hb); have n2_ := mk_ (Kd.R_elder' (Kd.ur_ HO358.out) (Kd.R_base ho8083) hb); have HO361 := mk_ (Kd.R_lower (Kd.R_new' ho8083 (Kd.R_lt (Kd.ur_ HO358.out))) (below_size (us_ HB.out))); replace BK355 := mk_ (blk_below (u_ BK355.out) hb); replace HB := mk_ (below_step (us_ HB.out) hb); replace HO358 := n2_; clear n2_; obtain ⟨Ao1800358, co1800358, eo1800358⟩ := Kd.R_slice HO358.out; subst eo1800358; obtain ⟨Ao1800361, co1800361, eo1800361⟩ := Kd.R_slice HO361.out; subst eo1800361) | (go_at_call 36; (with_reducible refine (laws_sameRanges.calls k _ _ t356 _ _ t359 true _ ?side1 ?side2 ?side3 ?side4 A6.out).mono ?_); (case side1 => repeat (first | exact (Kd.R_reads' HO358.out).2.2 | (with_reducible refine Kd.C_alloc ?_ _) | (with_reducible refine Kd.C_drewN ?_ _) | (with_reducible refine Kd.C_drew ?_))); (case side2 => exact (Kd.R_reads' HO358.out).2.1); (case side3 => repeat (first | exact (Kd.R_reads' HO361.out).2.2 | (with_reducible refine Kd.C_alloc ?_ _) | (with_reducible refine Kd.C_drewN ?_ _) | (with_reducible refine Kd.C_drew ?_))); (case side4 => exact (Kd.R_reads' HO361.out).2.1); rintro e w' ⟨rfl, ⟨nd, rfl⟩⟩; (try first | exact ⟨rfl, _, World.drewN_drewN _ _ _⟩ | exact ⟨rfl, _, Eq.trans (World.drewN_drewN _ _ _) (congrArg (World.drewN _) (Nat.add_assoc _ _ _))⟩); obtain ⟨hcz1830355_0, hcz1830355_1, hcz1830355_2, hcz1830355_3, hfz1830355_0, hfz1830355_1, hfz1830355_2, hfz1830355_3⟩ := cells4_ BK355.out) | (go_at_call 32; (with_reducible refine (impl_EarOk.calls k t347 t348 _ _ t349 _ _ t352 false _ ?side1 ?side2 ?side3 ?side4 A8.out).mono ?_); (case side1 => repeat (first | exact (Kd.R_reads' HO351.out).2.2 | (with_reducible refine Kd.C_alloc ?_ _) | (with_reducible refine Kd.C_drewN ?_ _) | (with_reducible refine Kd.C_drew ?_))); (case side2 => exact (Kd.R_reads' HO351.out).2.1); (case side3 => repeat (first | exact (Kd.Q_reads' HO354.out).2.2 | (with_reducible refine Kd.C_alloc ?_ _) | (with_reducible refine Kd.C_drewN ?_ _) | (with_reducible refine Kd.C_drew ?_))); (case side4 => exact (Kd.Q_reads' HO354.out).2.1); rintro e w8360 ⟨rfl, hb⟩; replace HO351 := mk_ (Kd.R_below (Kd.ur_ HO351.out) hb); replace HO354 := mk_ (Kd.Q_below (by (with_reducible repeat (first | apply Kd.Q_alloc | apply Kd.Q_drewN | apply Kd.Q_drew)); exact HO354.out) hb); replace HO358 := mk_ (Kd.R_below (Kd.ur_ HO358.out) hb); replace HO361 := mk_ (Kd.R_below (Kd.ur_ HO361.out) hb); replace BK355 := mk_ (blk_below (u_ BK355.out) hb); replace HB := mk_ (below_step (us_ HB.out) hb)) | (go_at_call 13; (with_reducible refine (laws_alive.calls k  t364 _ A55.out).mono ?_); rintro e w8400 ⟨rfl, hb⟩; replace HO351 := mk_ (Kd.R_below (Kd.ur_ HO351.out) hb); replace HO354 := mk_ (Kd.Q_below (by (with_reducible repeat (first | apply Kd.Q_alloc | apply Kd.Q_drewN | apply Kd.Q_drew)); exact HO354.out) hb); replace HO358 := mk_ (Kd.R_below (Kd.ur_ HO358.out) hb); replace HO361 := mk_ (Kd.R_below (Kd.ur_ HO361.out) hb); replace BK355 := mk_ (blk_below (u_ BK355.out) hb); replace HB := mk_ (below_step (us_ HB.out) hb))))
  go_ret
  exact ⟨by first | rfl | (simp [errW_none, errW_some] <;> rfl) | (simp [*, errW_none, errW_some] <;> rfl), us_ HB.out⟩
 ·repeat (go_quiet (first | (go_at_call 34; (with_reducible refine (spec_DrawEarRanges.calls k _ _ l0 t347 t348 t349 t352 _ ?side1 ?side2 A3.out).mono ?_); (case side1 => repeat (first | exact HR0.out | (with_reducible refine Kd.C_alloc ?_ _) | (with_reducible refine Kd.C_drewN ?_ _) | (with_reducible refine Kd.C_drew ?_))); (case side2 => exact HC0.out); rintro e w8080 ⟨v8081, v8082, rfl, ho8083, ho8084, hb⟩; have HO351 := mk_ (Kd.R_lower ho8083 (below_size (ub_ HB.out))); have HO354 := mk_ (Kd.Q_lower ho8084 (below_size (ub_ HB.out))); replace HB := mk_ (below_step (ub_ HB.out) hb)) | ((with_reducible refine gate_dst (N := 3) rfl ?_); refine box_event ?hg (N := 3) ?hd (cs := #[.int .i64 0, .int .i64 0, .slice none 0 0, .slice none 0 0]) (t := 59) ?hr ?_; (case hd => rfl); (case hg => rfl); (case hr => first | (go_simp; done) | (go_simp; rfl)); intro gb8120 hg w8121 hbox hb; replace HO351 := mk_ (Kd.R_below (Kd.ur_ HO351.out) hb); replace HO354 := mk_ (Kd.Q_below (by (with_reducible repeat (first | apply Kd.Q_alloc | apply Kd.Q_drewN | apply Kd.Q_drew)); exact HO354.out) hb); have n2_ := mk_ (below_step (ub_ HB.out) hb); have BK355 := mk_ (hbox); have GW355 := mk_ ((by rw [hg]; exact (below_size (ub_ HB.out)) : w.heap.size ≤ gb8120)); have GE355 := ge_ ((by rw [hg]; exact (below_size (ub_ HB.out)) : w.heap.size ≤ gb8120)); replace HB := n2_; clear n2_; clear hb hbox hg; obtain ⟨hcz1780355_0, hcz1780355_1, hcz1780355_2, hcz1780355_3, hfz1780355_0, hfz1780355_1, hfz1780355_2, hfz1780355_3⟩ := cells4_ BK355.out; obtain ⟨Ao1780351, co1780351, eo1780351⟩ := Kd.R_slice HO351.out; subst eo1780351; obtain ⟨Ao8122, co8122, eo8122, _⟩ := Kd.Q_slice HO354.out; subst eo8122) | (go_at_call 35; (with_reducible refine (impl_EarRanges.calls k t347 t348 _ _ t349 _ _ t352 t356 _ ?side1 ?side2 ?side3 ?side4 A4.out).mono ?_); (case side1 => refine (Kd.R_reads' (e := 5) (base := w.heap.size) (ok := fun k_ => True) (n := t349.length) (c := co1780351) ?_).2.2; exact (by (with_reducible repeat (first | apply Kd.R_alloc | apply Kd.R_drewN | apply Kd.R_drew)); exact (Kd.R_mono (Kd.R_far (p := ⟨gb8120, 3, none⟩) (Kd.R_far (p := ⟨gb8120, 2, none⟩) (Kd.R_far (p := ⟨gb8120, 1, none⟩) (Kd.R_far (p := ⟨gb8120, 0, none⟩) (Kd.R_types HO351.out BK355.out (by decide)) (fun _ hk => hk.2) (.int .i64 t347)) (fun _ hk => hk.2) (.int .i64 t348)) (fun _ hk => hk.2) (.slice Ao1780351 t349.length co1780351)) (fun _ hk => hk.2) (.slice Ao8122 t352.length co8122)) (fun _ h_ => by first | exact h_.1 | simp only [h_, ne_eq, not_false_eq_true, and_self])))); (case side2 => exact (Kd.R_reads' HO351.out).2.1); (case side3 => refine (Kd.Q_reads' (e := 68) (base := w.heap.size) (ok := fun k_ => True) (n := t352.length) (c := co8122) ?_).2.2; exact (by (with_reducible repeat (first | apply Kd.Q_alloc | apply Kd.Q_drewN | apply Kd.Q_drew)); exact (Kd.Q_mono (Kd.Q_far (p := ⟨gb8120, 3, none⟩) (Kd.Q_far (p := ⟨gb8120, 2, none⟩) (Kd.Q_far (p := ⟨gb8120, 1, none⟩) (Kd.Q_far (p := ⟨gb8120, 0, none⟩) (Kd.Q_types HO354.out BK355.out (by decide)) (fun _ hk => hk.2) (.int .i64 t347)) (fun _ hk => hk.2) (.int .i64 t348)) (fun _ hk => hk.2) (.slice Ao1780351 t349.length co1780351)) (fun _ hk => hk.2) (.slice Ao8122 t352.length co8122)) (fun _ h_ => by first | exact h_.1 | simp only [h_, ne_eq, not_false_eq_true, and_self])))); (case side4 => exact (Kd.Q_reads' HO354.out).2.1); rintro e w8160 ⟨v8161, rfl, ho8083, hb⟩; replace HO351 := mk_ (Kd.R_below (by (with_reducible repeat (first | apply Kd.R_alloc | apply Kd.R_drewN | apply Kd.R_drew)); exact (Kd.R_mono (Kd.R_far (p := ⟨gb8120, 3, none⟩) (Kd.R_far (p := ⟨gb8120, 2, none⟩) (Kd.R_far (p := ⟨gb8120, 1, none⟩) (Kd.R_far (p := ⟨gb8120, 0, none⟩) (Kd.R_types HO351.out BK355.out (by decide)) (fun _ hk => hk.2) (.int .i64 t347)) (fun _ hk => hk.2) (.int .i64 t348)) (fun _ hk => hk.2) (.slice Ao1780351 t349.length co1780351)) (fun _ hk => hk.2) (.slice Ao8122 t352.length co8122)) (fun _ h_ => by first | exact h_.1 | simp only [h_, ne_eq, not_false_eq_true, and_self]))) hb); replace HO354 := mk_ (Kd.Q_below (by (with_reducible repeat (first | apply Kd.Q_alloc | apply Kd.Q_drewN | apply Kd.Q_drew)); exact (Kd.Q_mono (Kd.Q_far (p := ⟨gb8120, 3, none⟩) (Kd.Q_far (p := ⟨gb8120, 2, none⟩) (Kd.Q_far (p := ⟨gb8120, 1, none⟩) (Kd.Q_far (p := ⟨gb8120, 0, none⟩) (Kd.Q_types HO354.out BK355.out (by decide)) (fun _ hk => hk.2) (.int .i64 t347)) (fun _ hk => hk.2) (.int .i64 t348)) (fun _ hk => hk.2) (.slice Ao1780351 t349.length co1780351)) (fun _ hk => hk.2) (.slice Ao8122 t352.length co8122)) (fun _ h_ => by first | exact h_.1 | simp only [h_, ne_eq, not_false_eq_true, and_self]))) hb); have HO358 := mk_ (Kd.R_lower ho8083 (below_size (us_ HB.out))); replace BK355 := mk_ (blk_below (g := gb8120) (o := .cells #[.int .i64 t347, .int .i64 t348, .slice Ao1780351 t349.length co1780351, .slice Ao8122 t352.length co8122] 59 (0, 0)) (by (with_reducible repeat (first | refine bn_ ?_ _ | refine bw_ ?_ | refine ba_ ?_ _)); refine blk_put (cs := #[.int .i64 t347, .int .i64 t348, .slice Ao1780351 t349.length co1780351, .slice none 0 0]) ?_ 3 _ rfl; (with_reducible repeat (first | refine bn_ ?_ _ | refine bw_ ?_ | refine ba_ ?_ _)); refine blk_put (cs := #[.int .i64 t347, .int .i64 t348, .slice none 0 0, .slice none 0 0]) ?_ 2 _ rfl; (with_reducible repeat (first | refine bn_ ?_ _ | refine bw_ ?_ | refine ba_ ?_ _)); refine blk_put (cs := #[.int .i64 t347, .int .i64 0, .slice none 0 0, .slice none 0 0]) ?_ 1 _ rfl; (with_reducible repeat (first | refine bn_ ?_ _ | refine bw_ ?_ | refine ba_ ?_ _)); refine blk_put (cs := #[.int .i64 0, .int .i64 0, .slice none 0 0, .slice none 0 0]) ?_ 0 _ rfl; (with_reducible repeat (first | refine bn_ ?_ _ | refine bw_ ?_ | refine ba_ ?_ _)); exact BK355.out) hb); replace HB := mk_ (below_step (us_ HB.out) hb); obtain ⟨hcz1790355_0, hcz1790355_1, hcz1790355_2, hcz1790355_3, hfz1790355_0, hfz1790355_1, hfz1790355_2, hfz1790355_3⟩ := cells4_ BK355.out) | (go_at_call 37; (with_reducible refine (spec_EarRanges.calls k t347 t348 _ _ t349 _ _ t352 t359 _ ?side1 ?side2 ?side3 ?side4 A5.out).mono ?_); (case side1 => repeat (first | exact (Kd.R_reads' HO351.out).2.2 | (with_reducible refine Kd.C_alloc ?_ _) | (with_reducible refine Kd.C_drewN ?_ _) | (with_reducible refine Kd.C_drew ?_))); (case side2 => exact (Kd.R_reads' HO351.out).2.1); (case side3 => repeat (first | exact (Kd.Q_reads' HO354.out).2.2 | (with_reducible refine Kd.C_alloc ?_ _) | (with_reducible refine Kd.C_drewN ?_ _) | (with_reducible refine Kd.C_drew ?_))); (case side4 => exact (Kd.Q_reads' HO354.out).2.1); rintro e w8200 ⟨v8201, rfl, ho8083, hb⟩; replace HO351 := mk_ (Kd.R_below (Kd.ur_ HO351.out) hb); replace HO354 := mk_ (Kd.Q_below (by (with_reducible repeat (first | apply Kd.Q_alloc | apply Kd.Q_drewN | apply Kd.Q_drew)); exact HO354.out) hb); have n2_ := mk_ (Kd.R_elder' (Kd.ur_ HO358.out) (Kd.R_base ho8083) hb); have HO361 := mk_ (Kd.R_lower (Kd.R_new' ho8083 (Kd.R_lt (Kd.ur_ HO358.out))) (below_size (us_ HB.out))); replace BK355 := mk_ (blk_below (u_ BK355.out) hb); replace HB := mk_ (below_step (us_ HB.out) hb); replace HO358 := n2_; clear n2_; obtain ⟨Ao1800358, co1800358, eo1800358⟩ := Kd.R_slice HO358.out; subst eo1800358; obtain ⟨Ao1800361, co1800361, eo1800361⟩ := Kd.R_slice HO361.out; subst eo1800361) | (go_at_call 36; (with_reducible refine (laws_sameRanges.calls k _ _ t356 _ _ t359 true _ ?side1 ?side2 ?side3 ?side4 A6.out).mono ?_); (case side1 => repeat (first | exact (Kd.R_reads' HO358.out).2.2 | (with_reducible refine Kd.C_alloc ?_ _) | (with_reducible refine Kd.C_drewN ?_ _) | (with_reducible refine Kd.C_drew ?_))); (case side2 => exact (Kd.R_reads' HO358.out).2.1); (case side3 => repeat (first | exact (Kd.R_reads' HO361.out).2.2 | (with_reducible refine Kd.C_alloc ?_ _) | (with_reducible refine Kd.C_drewN ?_ _) | (with_reducible refine Kd.C_drew ?_))); (case side4 => exact (Kd.R_reads' HO361.out).2.1); rintro e w' ⟨rfl, ⟨nd, rfl⟩⟩; (try first | exact ⟨rfl, _, World.drewN_drewN _ _ _⟩ | exact ⟨rfl, _, Eq.trans (World.drewN_drewN _ _ _) (congrArg (World.drewN _) (Nat.add_assoc _ _ _))⟩); obtain ⟨hcz1830355_0, hcz1830355_1, hcz1830355_2, hcz1830355_3, hfz1830355_0, hfz1830355_1, hfz1830355_2, hfz1830355_3⟩ := cells4_ BK355.out) | (go_at_call 32; (with_reducible refine (impl_EarOk.calls k t347 t348 _ _ t349 _ _ t352 true _ ?side1 ?side2 ?side3 ?side4 A8.out).mono ?_); (case side1 => repeat (first | exact (Kd.R_reads' HO351.out).2.2 | (with_reducible refine Kd.C_alloc ?_ _) | (with_reducible refine Kd.C_drewN ?_ _) | (with_reducible refine Kd.C_drew ?_))); (case side2 => exact (Kd.R_reads' HO351.out).2.1); (case side3 => repeat (first | exact (Kd.Q_reads' HO354.out).2.2 | (with_reducible refine Kd.C_alloc ?_ _) | (with_reducible refine Kd.C_drewN ?_ _) | (with_reducible refine Kd.C_drew ?_))); (case side4 => exact (Kd.Q_reads' HO354.out).2.1); rintro e w8440 ⟨rfl, hb⟩; replace HO351 := mk_ (Kd.R_below (Kd.ur_ HO351.out) hb); replace HO354 := mk_ (Kd.Q_below (by (with_reducible repeat (first | apply Kd.Q_alloc | apply Kd.Q_drewN | apply Kd.Q_drew)); exact HO354.out) hb); replace HO358 := mk_ (Kd.R_below (Kd.ur_ HO358.out) hb); replace HO361 := mk_ (Kd.R_below (Kd.ur_ HO361.out) hb); replace BK355 := mk_ (blk_below (u_ BK355.out) hb); replace HB := mk_ (below_step (us_ HB.out) hb))); try go_wp2_with (first | (go_at_call 34; (with_reducible refine (spec_DrawEarRanges.calls k _ _ l0 t347 t348 t349 t352 _ ?side1 ?side2 A3.out).mono ?_); (case side1 => repeat (first | exact HR0.out | (with_reducible refine Kd.C_alloc ?_ _) | (with_reducible refine Kd.C_drewN ?_ _) | (with_reducible refine Kd.C_drew ?_))); (case side2 => exact HC0.out); rintro e w8080 ⟨v8081, v8082, rfl, ho8083, ho8084, hb⟩; have HO351 := mk_ (Kd.R_lower ho8083 (below_size (ub_ HB.out))); have HO354 := mk_ (Kd.Q_lower ho8084 (below_size (ub_ HB.out))); replace HB := mk_ (below_step (ub_ HB.out) hb)) | ((with_reducible refine gate_dst (N := 3) rfl ?_); refine box_event ?hg (N := 3) ?hd (cs := #[.int .i64 0, .int .i64 0, .slice none 0 0, .slice none 0 0]) (t := 59) ?hr ?_; (case hd => rfl); (case hg => rfl); (case hr => first | (go_simp; done) | (go_simp; rfl)); intro gb8120 hg w8121 hbox hb; replace HO351 := mk_ (Kd.R_below (Kd.ur_ HO351.out) hb); replace HO354 := mk_ (Kd.Q_below (by (with_reducible repeat (first | apply Kd.Q_alloc | apply Kd.Q_drewN | apply Kd.Q_drew)); exact HO354.out) hb); have n2_ := mk_ (below_step (ub_ HB.out) hb); have BK355 := mk_ (hbox); have GW355 := mk_ ((by rw [hg]; exact (below_size (ub_ HB.out)) : w.heap.size ≤ gb8120)); have GE355 := ge_ ((by rw [hg]; exact (below_size (ub_ HB.out)) : w.heap.size ≤ gb8120)); replace HB := n2_; clear n2_; clear hb hbox hg; obtain ⟨hcz1780355_0, hcz1780355_1, hcz1780355_2, hcz1780355_3, hfz1780355_0, hfz1780355_1, hfz1780355_2, hfz1780355_3⟩ := cells4_ BK355.out; obtain ⟨Ao1780351, co1780351, eo1780351⟩ := Kd.R_slice HO351.out; subst eo1780351; obtain ⟨Ao8122, co8122, eo8122, _⟩ := Kd.Q_slice HO354.out; subst eo8122) | (go_at_call 35; (with_reducible refine (impl_EarRanges.calls k t347 t348 _ _ t349 _ _ t352 t356 _ ?side1 ?side2 ?side3 ?side4 A4.out).mono ?_); (case side1 => refine (Kd.R_reads' (e := 5) (base := w.heap.size) (ok := fun k_ => True) (n := t349.length) (c := co1780351) ?_).2.2; exact (by (with_reducible repeat (first | apply Kd.R_alloc | apply Kd.R_drewN | apply Kd.R_drew)); exact (Kd.R_mono (Kd.R_far (p := ⟨gb8120, 3, none⟩) (Kd.R_far (p := ⟨gb8120, 2, none⟩) (Kd.R_far (p := ⟨gb8120, 1, none⟩) (Kd.R_far (p := ⟨gb8120, 0, none⟩) (Kd.R_types HO351.out BK355.out (by decide)) (fun _ hk => hk.2) (.int .i64 t347)) (fun _ hk => hk.2) (.int .i64 t348)) (fun _ hk => hk.2) (.slice Ao1780351 t349.length co1780351)) (fun _ hk => hk.2) (.slice Ao8122 t352.length co8122)) (fun _ h_ => by first | exact h_.1 | simp only [h_, ne_eq, not_false_eq_true, and_self])))); (case side2 => exact (Kd.R_reads' HO351.out).2.1); (case side3 => refine (Kd.Q_reads' (e := 68) (base := w.heap.size) (ok := fun k_ => True) (n := t352.length) (c := co8122) ?_).2.2; exact (by (with_reducible repeat (first | apply Kd.Q_alloc | apply Kd.Q_drewN | apply Kd.Q_drew)); exact (Kd.Q_mono (Kd.Q_far (p := ⟨gb8120, 3, none⟩) (Kd.Q_far (p := ⟨gb8120, 2, none⟩) (Kd.Q_far (p := ⟨gb8120, 1, none⟩) (Kd.Q_far (p := ⟨gb8120, 0, none⟩) (Kd.Q_types HO354.out BK355.out (by decide)) (fun _ hk => hk.2) (.int .i64 t347)) (fun _ hk => hk.2) (.int .i64 t348)) (fun _ hk => hk.2) (.slice Ao1780351 t349.length co1780351)) (fun _ hk => hk.2) (.slice Ao8122 t352.length co8122)) (fun _ h_ => by first | exact h_.1 | simp only [h_, ne_eq, not_false_eq_true, and_self])))); (case side4 => exact (Kd.Q_reads' HO354.out).2.1); rintro e w8160 ⟨v8161, rfl, ho8083, hb⟩; replace HO351 := mk_ (Kd.R_below (by (with_reducible repeat (first | apply Kd.R_alloc | apply Kd.R_drewN | apply Kd.R_drew)); exact (Kd.R_mono (Kd.R_far (p := ⟨gb8120, 3, none⟩) (Kd.R_far (p := ⟨gb8120, 2, none⟩) (Kd.R_far (p := ⟨gb8120, 1, none⟩) (Kd.R_far (p := ⟨gb8120, 0, none⟩) (Kd.R_types HO351.out BK355.out (by decide)) (fun _ hk => hk.2) (.int .i64 t347)) (fun _ hk => hk.2) (.int .i64 t348)) (fun _ hk => hk.2) (.slice Ao1780351 t349.length co1780351)) (fun _ hk => hk.2) (.slice Ao8122 t352.length co8122)) (fun _ h_ => by first | exact h_.1 | simp only [h_, ne_eq, not_false_eq_true, and_self]))) hb); replace HO354 := mk_ (Kd.Q_below (by (with_reducible repeat (first | apply Kd.Q_alloc | apply Kd.Q_drewN | apply Kd.Q_drew)); exact (Kd.Q_mono (Kd.Q_far (p := ⟨gb8120, 3, none⟩) (Kd.Q_far (p := ⟨gb8120, 2, none⟩) (Kd.Q_far (p := ⟨gb8120, 1, none⟩) (Kd.Q_far (p := ⟨gb8120, 0, none⟩) (Kd.Q_types HO354.out BK355.out (by decide)) (fun _ hk => hk.2) (.int .i64 t347)) (fun _ hk => hk.2) (.int .i64 t348)) (fun _ hk => hk.2) (.slice Ao1780351 t349.length co1780351)) (fun _ hk => hk.2) (.slice Ao8122 t352.length co8122)) (fun _ h_ => by first | exact h_.1 | simp only [h_, ne_eq, not_false_eq_true, and_self]))) hb); have HO358 := mk_ (Kd.R_lower ho8083 (below_size (us_ HB.out))); replace BK355 := mk_ (blk_below (g := gb8120) (o := .cells #[.int .i64 t347, .int .i64 t348, .slice Ao1780351 t349.length co1780351, .slice Ao8122 t352.length co8122] 59 (0, 0)) (by (with_reducible repeat (first | refine bn_ ?_ _ | refine bw_ ?_ | refine ba_ ?_ _)); refine blk_put (cs := #[.int .i64 t347, .int .i64 t348, .slice Ao1780351 t349.length co1780351, .slice none 0 0]) ?_ 3 _ rfl; (with_reducible repeat (first | refine bn_ ?_ _ | refine bw_ ?_ | refine ba_ ?_ _)); refine blk_put (cs := #[.int .i64 t347, .int .i64 t348, .slice none 0 0, .slice none 0 0]) ?_ 2 _ rfl; (with_reducible repeat (first | refine bn_ ?_ _ | refine bw_ ?_ | refine ba_ ?_ _)); refine blk_put (cs := #[.int .i64 t347, .int .i64 0, .slice none 0 0, .slice none 0 0]) ?_ 1 _ rfl; (with_reducible repeat (first | refine bn_ ?_ _ | refine bw_ ?_ | refine ba_ ?_ _)); refine blk_put (cs := #[.int .i64 0, .int .i64 0, .slice none 0 0, .slice none 0 0]) ?_ 0 _ rfl; (with_reducible repeat (first | refine bn_ ?_ _ | refine bw_ ?_ | refine ba_ ?_ _)); exact BK355.out) hb); replace HB := mk_ (below_step (us_ HB.out) hb); obtain ⟨hcz1790355_0, hcz1790355_1, hcz1790355_2, hcz1790355_3, hfz1790355_0, hfz1790355_1, hfz1790355_2, hfz1790355_3⟩ := cells4_ BK355.out) | (go_at_call 37; (with_reducible refine (spec_EarRanges.calls k t347 t348 _ _ t349 _ _ t352 t359 _ ?side1 ?side2 ?side3 ?side4 A5.out).mono ?_); (case side1 => repeat (first | exact (Kd.R_reads' HO351.out).2.2 | (with_reducible refine Kd.C_alloc ?_ _) | (with_reducible refine Kd.C_drewN ?_ _) | (with_reducible refine Kd.C_drew ?_))); (case side2 => exact (Kd.R_reads' HO351.out).2.1); (case side3 => repeat (first | exact (Kd.Q_reads' HO354.out).2.2 | (with_reducible refine Kd.C_alloc ?_ _) | (with_reducible refine Kd.C_drewN ?_ _) | (with_reducible refine Kd.C_drew ?_))); (case side4 => exact (Kd.Q_reads' HO354.out).2.1); rintro e w8200 ⟨v8201, rfl, ho8083, hb⟩; replace HO351 := mk_ (Kd.R_below (Kd.ur_ HO351.out) hb); replace HO354 := mk_ (Kd.Q_below (by (with_reducible repeat (first | apply Kd.Q_alloc | apply Kd.Q_drewN | apply Kd.Q_drew)); exact HO354.out) hb); have n2_ := mk_ (Kd.R_elder' (Kd.ur_ HO358.out) (Kd.R_base ho8083) hb); have HO361 := mk_ (Kd.R_lower (Kd.R_new' ho8083 (Kd.R_lt (Kd.ur_ HO358.out))) (below_size (us_ HB.out))); replace BK355 := mk_ (blk_below (u_ BK355.out) hb); replace HB := mk_ (below_step (us_ HB.out) hb); replace HO358 := n2_; clear n2_; obtain ⟨Ao1800358, co1800358, eo1800358⟩ := Kd.R_slice HO358.out; subst eo1800358; obtain ⟨Ao1800361, co1800361, eo1800361⟩ := Kd.R_slice HO361.out; subst eo1800361) | (go_at_call 36; (with_reducible refine (laws_sameRanges.calls k _ _ t356 _ _ t359 true _ ?side1 ?side2 ?side3 ?side4 A6.out).mono ?_); (case side1 => repeat (first | exact (Kd.R_reads' HO358.out).2.2 | (with_reducible refine Kd.C_alloc ?_ _) | (with_reducible refine Kd.C_drewN ?_ _) | (with_reducible refine Kd.C_drew ?_))); (case side2 => exact (Kd.R_reads' HO358.out).2.1); (case side3 => repeat (first | exact (Kd.R_reads' HO361.out).2.2 | (with_reducible refine Kd.C_alloc ?_ _) | (with_reducible refine Kd.C_drewN ?_ _) | (with_reducible refine Kd.C_drew ?_))); (case side4 => exact (Kd.R_reads' HO361.out).2.1); rintro e w' ⟨rfl, ⟨nd, rfl⟩⟩; (try first | exact ⟨rfl, _, World.drewN_drewN _ _ _⟩ | exact ⟨rfl, _, Eq.trans (World.drewN_drewN _ _ _) (congrArg (World.drewN _) (Nat.add_assoc _ _ _))⟩); obtain ⟨hcz1830355_0, hcz1830355_1, hcz1830355_2, hcz1830355_3, hfz1830355_0, hfz1830355_1, hfz1830355_2, hfz1830355_3⟩ := cells4_ BK355.out) | (go_at_call 32; (with_reducible refine (impl_EarOk.calls k t347 t348 _ _ t349 _ _ t352 true _ ?side1 ?side2 ?side3 ?side4 A8.out).mono ?_); (case side1 => repeat (first | exact (Kd.R_reads' HO351.out).2.2 | (with_reducible refine Kd.C_alloc ?_ _) | (with_reducible refine Kd.C_drewN ?_ _) | (with_reducible refine Kd.C_drew ?_))); (case side2 => exact (Kd.R_reads' HO351.out).2.1); (case side3 => repeat (first | exact (Kd.Q_reads' HO354.out).2.2 | (with_reducible refine Kd.C_alloc ?_ _) | (with_reducible refine Kd.C_drewN ?_ _) | (with_reducible refine Kd.C_drew ?_))); (case side4 => exact (Kd.Q_reads' HO354.out).2.1); rintro e w8440 ⟨rfl, hb⟩; replace HO351 := mk_ (Kd.R_below (Kd.ur_ HO351.out) hb); replace HO354 := mk_ (Kd.Q_below (by (with_reducible repeat (first | apply Kd.Q_alloc | apply Kd.Q_drewN | apply Kd.Q_drew)); exact HO354.out) hb); replace HO358 := mk_ (Kd.R_below (Kd.ur_ HO358.out) hb); replace HO361 := mk_ (Kd.R_below (Kd.ur_ HO361.out) hb); replace BK355 := mk_ (blk_below (u_ BK355.out) hb); replace HB := mk_ (below_step (us_ HB.out) hb))))
  go_loopg [5] k (fun kq v5 w' => ∃ (x5_1 : Int), v5 = .int .i64 x5_1 ∧ Aside0 (laws_FnEarRanges.l0 kq t356 x5_1 t347 t348 t349 t352 = some r) ∧ Aside0 (kq ≤ k) ∧ Aside0 (Kd.R k66 66 w' w.heap.size (fun _ => True) (.slice Ao1800358 t356.length co1800358) t356) ∧ Aside0 (Kd.R (Kd.int .u8) 5 w' w.heap.size (fun _ => True) (.slice Ao1780351 t349.length co1780351) t349) ∧ Aside0 (Kd.Q k68 68 w' w.heap.size (fun _ => True) (.slice Ao8122 t352.length co8122) t352) ∧ Aside0 (w'.heap[gb8120]? = some (.cells #[.int .i64 t347, .int .i64 t348, (.slice Ao1780351 t349.length co1780351), (.slice Ao8122 t352.length co8122)] 59 (0, 0))) ∧ Aside0 (Below w.heap.size w w'))
  case atStart => exact ⟨(0), (by first | rfl | (simp; done) | (simp [*]; done)), H', ⟨Nat.le_refl _⟩, ⟨by (with_reducible repeat (first | apply Kd.R_alloc | apply Kd.R_drewN | apply Kd.R_drew)); exact Kd.R_mono HO358.out (fun _ hk => trivial)⟩, ⟨Kd.ur_ HO351.out⟩, ⟨by (with_reducible repeat (first | apply Kd.Q_alloc | apply Kd.Q_drewN | apply Kd.Q_drew)); exact HO354.out⟩, ⟨u_ BK355.out⟩, ⟨us_ HB.out⟩⟩
  case round =>
   clear H'
   try clear c2
   try clear c2b0
   try clear c2b1
   try clear p2
   try clear c7
   try clear c8
   try clear c9
   try clear hcz1780355_0
   try clear hcz1780355_1
   try clear hcz1780355_2
   try clear hcz1780355_3
   try clear hcz1790355_0
   try clear hcz1790355_1
   try clear hcz1790355_2
   try clear hcz1790355_3
   try clear hcz1830355_0
   try clear hcz1830355_1
   try clear hcz1830355_2
   try clear hcz1830355_3
   try clear hfz1780355_0
   try clear hfz1780355_1
   try clear hfz1780355_2
   try clear hfz1780355_3
   try clear hfz1790355_0
   try clear hfz1790355_1
   try clear hfz1790355_2
   try clear hfz1790355_3
   try clear hfz1830355_0
   try clear hfz1830355_1
   try clear hfz1830355_2
   try clear hfz1830355_3
   obtain ⟨x5_1, rfl, HA, HK8084, HO_8480, HO_8481, HO_8482, BK355, HB⟩ := hrel
   cases gk with
   | zero => exact absurd HA.out (by simp [laws_FnEarRanges.l0])
   | succ k1 =>
    have H := HA.out
    clear HA
    simp only [laws_FnEarRanges.l0] at H
    by_cases c22 : x5_1 < (t356.length : Int)
    rotate_left
    ·rw [if_neg c22] at H
     have c22b0 : decide (x5_1 < (t356.length : Int)) = false := decide_eq_false c22
     clear c22
     by_cases c47 : ((decide ((t356.length : Int) > 0)) == (decide ((t352.length : Int) > 0))) = true
     rotate_left
     ·rw [if_neg c47] at H
      have c47b0 : ((decide ((t356.length : Int) > 0)) == (decide ((t352.length : Int) > 0))) = false := by simpa using c47
      (try (have c47b1 : decide ((decide ((t356.length : Int) > 0)) = (decide ((t352.length : Int) > 0))) = false := by simpa using c47))
      (try (have c47b2 : ((decide ((t356.length : Int) > 0)) == (decide ((t352.length : Int) > 0))) = false := by simpa using c47))
      (try (have c47b3 : ¬ ((decide ((t356.length : Int) > 0)) = (decide ((t352.length : Int) > 0))) := by simpa using c47))
      have c47e : ¬(0 < t356.length ↔ 0 < t352.length) := by simpa using c47
      clear c47
      obtain rfl := Option.some.inj H
      obtain ⟨_, _, _, _, _, _, _, _⟩ := cells4_ BK355.out
      go_wp2
      repeat (go_quiet (fail); try go_wp2)
      all_goals try (first | exact absurd c47e (by assumption) | exact absurd (by assumption) c47e)
      go_ret
      exact ⟨by first | rfl | (simp [errW_none, errW_some] <;> rfl) | (simp [*, errW_none, errW_some] <;> rfl), us_ HB.out⟩
     rw [if_pos c47] at H
     have c47b0 : ((decide ((t356.length : Int) > 0)) == (decide ((t352.length : Int) > 0))) = true := c47
     (try (have c47b1 : decide ((decide ((t356.length : Int) > 0)) = (decide ((t352.length : Int) > 0))) = true := by simpa using c47))
     (try (have c47b2 : ((decide ((t356.length : Int) > 0)) == (decide ((t352.length : Int) > 0))) = true := by simpa using c47))
     have c47e : (0 < t356.length ↔ 0 < t352.length) := by simpa using c47
     clear c47
     by_cases c48 : (t356.length : Int) ≤ 2
     rotate_left
     ·rw [if_neg c48] at H
      have c48b0 : decide ((t356.length : Int) ≤ 2) = false := decide_eq_false c48
      have c48b1 : decide (t356.length ≤ 2) = false := decide_eq_false (by omega)
      clear c48
      obtain rfl := Option.some.inj H
      obtain ⟨_, _, _, _, _, _, _, _⟩ := cells4_ BK355.out
      go_wp2
      repeat (go_quiet (fail); try go_wp2)
      all_goals try (first | exact absurd c47e (by assumption) | exact absurd (by assumption) c47e)
      go_ret
      exact ⟨by first | rfl | (simp [errW_none, errW_some] <;> rfl) | (simp [*, errW_none, errW_some] <;> rfl), us_ HB.out⟩
     rw [if_pos c48] at H
     have c48b0 : decide ((t356.length : Int) ≤ 2) = true := decide_eq_true c48
     have c48b1 : decide (t356.length ≤ 2) = true := decide_eq_true (by omega)
     clear c48
     replace H := Option.bind_eq_some_iff.mp H
     obtain ⟨t8483, A8484, H⟩ := H
     replace H : (some t8483) = some r := H
     have A8485 := mk_ A8484
     clear A8484
     obtain rfl := Option.some.inj H
     obtain ⟨_, _, _, _, _, _, _, _⟩ := cells4_ BK355.out
     go_wp2_with (first | (go_at_call 13; (with_reducible refine (laws_alive.calls k1  t8483 _ A8485.out).mono ?_); rintro e w8486 ⟨rfl, hb⟩; replace HO_8480 := mk_ (Kd.R_below (Kd.ur_ HO_8480.out) hb); replace HO_8481 := mk_ (Kd.R_below (Kd.ur_ HO_8481.out) hb); replace HO_8482 := mk_ (Kd.Q_below (by (with_reducible repeat (first | apply Kd.Q_alloc | apply Kd.Q_drewN | apply Kd.Q_drew)); exact HO_8482.out) hb); replace BK355 := mk_ (blk_below (u_ BK355.out) hb); replace HB := mk_ (below_step (us_ HB.out) hb)))
     repeat (go_quiet (first | (go_at_call 13; (with_reducible refine (laws_alive.calls k1  t8483 _ A8485.out).mono ?_); rintro e w8486 ⟨rfl, hb⟩; replace HO_8480 := mk_ (Kd.R_below (Kd.ur_ HO_8480.out) hb); replace HO_8481 := mk_ (Kd.R_below (Kd.ur_ HO_8481.out) hb); replace HO_8482 := mk_ (Kd.Q_below (by (with_reducible repeat (first | apply Kd.Q_alloc | apply Kd.Q_drewN | apply Kd.Q_drew)); exact HO_8482.out) hb); replace BK355 := mk_ (blk_below (u_ BK355.out) hb); replace HB := mk_ (below_step (us_ HB.out) hb))); try go_wp2_with (first | (go_at_call 13; (with_reducible refine (laws_alive.calls k1  t8483 _ A8485.out).mono ?_); rintro e w8486 ⟨rfl, hb⟩; replace HO_8480 := mk_ (Kd.R_below (Kd.ur_ HO_8480.out) hb); replace HO_8481 := mk_ (Kd.R_below (Kd.ur_ HO_8481.out) hb); replace HO_8482 := mk_ (Kd.Q_below (by (with_reducible repeat (first | apply Kd.Q_alloc | apply Kd.Q_drewN | apply Kd.Q_drew)); exact HO_8482.out) hb); replace BK355 := mk_ (blk_below (u_ BK355.out) hb); replace HB := mk_ (below_step (us_ HB.out) hb))))
     all_goals try (first | exact absurd c47e (by assumption) | exact absurd (by assumption) c47e)
     go_ret
     exact ⟨by first | rfl | (simp [errW_none, errW_some] <;> rfl) | (simp [*, errW_none, errW_some] <;> rfl), us_ HB.out⟩
    rw [if_pos c22] at H
    have c22b0 : decide (x5_1 < (t356.length : Int)) = true := decide_eq_true c22
    clear c22
    have HC8487 := mk_ H
    clear H
    go_upto_region 12 with (fail)
    repeat (go_quiet (fail); go_upto_region 12 with (fail))
    go_cut [61] (fun v8488 wc => ∃ (kq : Nat) (x61_22 : Bool), v8488 = .bool x61_22 ∧ Aside0 (laws_FnEarRanges.j1 kq t356 x5_1 x61_22 t347 t348 t349 t352 = some r) ∧ Aside0 (kq ≤ k1) ∧ Aside0 (Kd.R k66 66 wc w.heap.size (fun _ => True) (.slice Ao1800358 t356.length co1800358) t356) ∧ Aside0 (Kd.R (Kd.int .u8) 5 wc w.heap.size (fun _ => True) (.slice Ao1780351 t349.length co1780351) t349) ∧ Aside0 (Kd.Q k68 68 wc w.heap.size (fun _ => True) (.slice Ao8122 t352.length co8122) t352) ∧ Aside0 (wc.heap[gb8120]? = some (.cells #[.int .i64 t347, .int .i64 t348, (.slice Ao1780351 t349.length co1780351), (.slice Ao8122 t352.length co8122)] 59 (0, 0))) ∧ Aside0 (Below w.heap.size w wc))
    case first =>
     have H := HC8487.out
     clear HC8487
     by_cases c24 : 0 ≤ x5_1
     rotate_left
     ·rw [if_neg c24] at H
      exact absurd H (by simp)
     rw [if_pos c24] at H
     have c24b0 : decide (0 ≤ x5_1) = true := decide_eq_true c24
     clear c24
     (first | rw [c24b0] | (simp only [i64_w, i32_w]; rw [c24b0]) | skip)
     by_cases c25 : ((rd_T66 t356 x5_1).f0) ≤ t347
     ·rw [if_pos c25] at H
      have c25b0 : decide (((rd_T66 t356 x5_1).f0) ≤ t347) = true := decide_eq_true c25
      clear c25
      have H' := mk_ H
      clear H
      have p8489 : 0 ≤ (x5_1 : Int) := of_decide_eq_true (by first | (with_reducible assumption) | assumption)
      have q8489 : x5_1 < (t356.length : Int) := of_decide_eq_true (by first | (with_reducible assumption) | assumption)
      obtain ⟨ad8489, e8489, hx366_0, hx366_1⟩ := at_T66 (Kd.R_reads' HO_8480.out).2.2 x5_1 p8489 q8489
      cases e8489
      replace p8489 := eq_true p8489
      replace q8489 := eq_true q8489
      obtain ⟨hcz1870355_0, hcz1870355_1, hcz1870355_2, hcz1870355_3, hfz1870355_0, hfz1870355_1, hfz1870355_2, hfz1870355_3⟩ := cells4_ BK355.out
      go_wp2
      repeat (go_quiet (fail); try go_wp2)
      go_meet
      case rel => exact ⟨_, (true), (by first | rfl | (simp; done) | (simp [*]; done)), H', ⟨by have := HK8084.out; first | omega | exact Nat.le_refl _⟩, ⟨Kd.ur_ HO_8480.out⟩, ⟨Kd.ur_ HO_8481.out⟩, ⟨by (with_reducible repeat (first | apply Kd.Q_alloc | apply Kd.Q_drewN | apply Kd.Q_drew)); exact HO_8482.out⟩, ⟨u_ BK355.out⟩, ⟨us_ HB.out⟩⟩
     rw [if_neg c25] at H
     have c25b0 : decide (((rd_T66 t356 x5_1).f0) ≤ t347) = false := decide_eq_false c25
     clear c25
     by_cases c27 : x5_1 > 0
     rotate_left
     ·rw [if_neg c27] at H
      have c27b0 : decide (0 < x5_1) = false := decide_eq_false c27
      clear c27
      have H' := mk_ H
      clear H
      have p8489 : 0 ≤ (x5_1 : Int) := of_decide_eq_true (by first | (with_reducible assumption) | assumption)
      have q8489 : x5_1 < (t356.length : Int) := of_decide_eq_true (by first | (with_reducible assumption) | assumption)
      obtain ⟨ad8489, e8489, hx366_0, hx366_1⟩ := at_T66 (Kd.R_reads' HO_8480.out).2.2 x5_1 p8489 q8489
      cases e8489
      replace p8489 := eq_true p8489
      replace q8489 := eq_true q8489
      obtain ⟨hcz1870355_0, hcz1870355_1, hcz1870355_2, hcz1870355_3, hfz1870355_0, hfz1870355_1, hfz1870355_2, hfz1870355_3⟩ := cells4_ BK355.out
      go_wp2
      repeat (go_quiet (fail); try go_wp2)
      go_meet
      case rel => exact ⟨_, (false), (by first | rfl | (simp; done) | (simp [*]; done)), H', ⟨by have := HK8084.out; first | omega | exact Nat.le_refl _⟩, ⟨Kd.ur_ HO_8480.out⟩, ⟨Kd.ur_ HO_8481.out⟩, ⟨by (with_reducible repeat (first | apply Kd.Q_alloc | apply Kd.Q_drewN | apply Kd.Q_drew)); exact HO_8482.out⟩, ⟨u_ BK355.out⟩, ⟨us_ HB.out⟩⟩
     rw [if_pos c27] at H
     have c27b0 : decide (0 < x5_1) = true := decide_eq_true c27
     clear c27
     obtain ⟨ji28, hji28⟩ : ∃ j_ : Int, (wrap64 (x5_1 - 1)) = j_ := ⟨_, rfl⟩
     replace H : (if 0 ≤ (ji28) then (if (ji28) < (t356.length : Int) then (laws_FnEarRanges.j1 k1 t356 x5_1 (decide (((rd_T66 t356 (ji28)).f1) ≥ ((rd_T66 t356 x5_1).f0))) t347 t348 t349 t352) else (none)) else (none)) = some r := by first | (rw [hji28] at H; exact H) | (simp only [hji28] at H ⊢; exact H)
     have hji28w : (IntKind.i64.wrap (x5_1 - 1)) = ji28 := (i64_w _).trans hji28
     by_cases c29 : 0 ≤ (ji28)
     rotate_left
     ·rw [if_neg c29] at H
      exact absurd H (by simp)
     rw [if_pos c29] at H
     have c29b0 : decide (0 ≤ (ji28)) = true := decide_eq_true c29
     clear c29
     by_cases c30 : (ji28) < (t356.length : Int)
     rotate_left
     ·rw [if_neg c30] at H
      exact absurd H (by simp)
     rw [if_pos c30] at H
     have c30b0 : decide ((ji28) < (t356.length : Int)) = true := decide_eq_true c30
     clear c30
     have H' := mk_ H
     clear H
     have p8489 : 0 ≤ (x5_1 : Int) := of_decide_eq_true (by first | (with_reducible assumption) | assumption)
     have q8489 : x5_1 < (t356.length : Int) := of_decide_eq_true (by first | (with_reducible assumption) | assumption)
     obtain ⟨ad8489, e8489, hx366_0, hx366_1⟩ := at_T66 (Kd.R_reads' HO_8480.out).2.2 x5_1 p8489 q8489
     cases e8489
     replace p8489 := eq_true p8489
     replace q8489 := eq_true q8489
     obtain ⟨hcz1870355_0, hcz1870355_1, hcz1870355_2, hcz1870355_3, hfz1870355_0, hfz1870355_1, hfz1870355_2, hfz1870355_3⟩ := cells4_ BK355.out
     have p8490 : 0 ≤ ((ji28) : Int) := of_decide_eq_true (by first | (with_reducible assumption) | assumption)
     have q8490 : (ji28) < (t356.length : Int) := of_decide_eq_true (by first | (with_reducible assumption) | assumption)
     obtain ⟨ad8490, e8490, hx367_0, hx367_1⟩ := at_T66 (Kd.R_reads' HO_8480.out).2.2 (ji28) p8490 q8490
     obtain rfl : ad8489 = ad8490 := (by injection e8490)
     replace p8490 := eq_true p8490
     replace q8490 := eq_true q8490
     have p8491 : 0 ≤ (x5_1 : Int) := of_decide_eq_true (by first | (with_reducible assumption) | assumption)
     have q8491 : x5_1 < (t356.length : Int) := of_decide_eq_true (by first | (with_reducible assumption) | assumption)
     obtain ⟨ad8491, e8491, hx368_0, hx368_1⟩ := at_T66 (Kd.R_reads' HO_8480.out).2.2 x5_1 p8491 q8491
     obtain rfl : ad8489 = ad8491 := (by injection e8491)
     replace p8491 := eq_true p8491
     replace q8491 := eq_true q8491
     go_wp2
     repeat (go_quiet (fail); try go_wp2)
     go_meet
     case rel => exact ⟨_, (decide (((rd_T66 t356 (ji28)).f1) ≥ ((rd_T66 t356 x5_1).f0))), (by first | rfl | (simp; done) | (simp only [← hji28] <;> (first | rfl | simp)) | (simp [*]; done)), (by first | exact H' | (simp only [← hji28] at H'; exact H') | (simp only [← hji28] at H' ⊢; exact H') | (simp only [← hji28]; exact H')), ⟨by have := HK8084.out; first | omega | exact Nat.le_refl _⟩, ⟨Kd.ur_ HO_8480.out⟩, ⟨Kd.ur_ HO_8481.out⟩, ⟨by (with_reducible repeat (first | apply Kd.Q_alloc | apply Kd.Q_drewN | apply Kd.Q_drew)); exact HO_8482.out⟩, ⟨u_ BK355.out⟩, ⟨us_ HB.out⟩⟩
    case rest =>
     clear HC8487
     try clear c2
     try clear c2b0
     try clear c2b1
     try clear p2
     try clear c3
     try clear p3
     try clear q3
     try clear hx3
     try clear p6
     try clear c7
     try clear c8
     try clear c9
     try clear c22
     try clear c22b0
     try clear c24
     try clear c24b0
     try clear c25
     try clear c25b0
     try clear c27
     try clear c27b0
     try clear c29
     try clear c29b0
     try clear c30
     try clear c30b0
     try clear hcz1780355_0
     try clear hcz1780355_1
     try clear hcz1780355_2
     try clear hcz1780355_3
     try clear hcz1790355_0
     try clear hcz1790355_1
     try clear hcz1790355_2
     try clear hcz1790355_3
     try clear hcz1830355_0
     try clear hcz1830355_1
     try clear hcz1830355_2
     try clear hcz1830355_3
     try clear hcz1870355_0
     try clear hcz1870355_1
     try clear hcz1870355_2
     try clear hcz1870355_3
     try clear hcz1870355_0
     try clear hcz1870355_1
     try clear hcz1870355_2
     try clear hcz1870355_3
     try clear hcz1870355_0
     try clear hcz1870355_1
     try clear hcz1870355_2
     try clear hcz1870355_3
     try clear hfz1780355_0
     try clear hfz1780355_1
     try clear hfz1780355_2
     try clear hfz1780355_3
     try clear hfz1790355_0
     try clear hfz1790355_1
     try clear hfz1790355_2
     try clear hfz1790355_3
     try clear hfz1830355_0
     try clear hfz1830355_1
     try clear hfz1830355_2
     try clear hfz1830355_3
     try clear hfz1870355_0
     try clear hfz1870355_1
     try clear hfz1870355_2
     try clear hfz1870355_3
     try clear hfz1870355_0
     try clear hfz1870355_1
     try clear hfz1870355_2
     try clear hfz1870355_3
     try clear hfz1870355_0
     try clear hfz1870355_1
     try clear hfz1870355_2
     try clear hfz1870355_3
     try clear hx366_0
     try clear hx366_1
     try clear hx367_0
     try clear hx367_1
     try clear hx368_0
     try clear hx368_1
     try clear p2
     try clear p8489
     try clear p8490
     try clear p8491
     try clear q8489
     try clear q8490
     try clear q8491
     obtain ⟨kq, x61_22, rfl, HA, HJ8492, HO_8480, HO_8481, HO_8482, BK355, HB⟩ := hcut
     cases kq with
     | zero => exact absurd HA.out (by simp [laws_FnEarRanges.j1])
     | succ kj22 =>
      have H := HA.out
      clear HA
      simp only [laws_FnEarRanges.j1] at H
      by_cases c8493 : x61_22 = true
      ·subst c8493
       have H1 : (some false) = some r := by rw [if_pos rfl] at H; exact H
       clear H
       have H := H1
       clear H1
       obtain rfl := Option.some.inj H
       go_wp2
       repeat (go_quiet (fail); try go_wp2)
       go_ret
       exact ⟨by first | rfl | (simp [errW_none, errW_some] <;> rfl) | (simp [*, errW_none, errW_some] <;> rfl), us_ HB.out⟩
      replace c8493 := Bool.eq_false_iff.mpr c8493
      subst c8493
      rw [if_neg (show ¬ (false = true) by decide)] at H
      by_cases c34 : 0 ≤ x5_1
      rotate_left
      ·rw [if_neg c34] at H
       exact absurd H (by simp)
      rw [if_pos c34] at H
      have c34b0 : decide (0 ≤ x5_1) = true := decide_eq_true c34
      clear c34
      by_cases c35 : x5_1 < (t356.length : Int)
      rotate_left
      ·rw [if_neg c35] at H
       exact absurd H (by simp)
      rw [if_pos c35] at H
      have c35b0 : decide (x5_1 < (t356.length : Int)) = true := decide_eq_true c35
      clear c35
      have H' := mk_ H
      clear H
      have p8494 : 0 ≤ (x5_1 : Int) := of_decide_eq_true (by first | (with_reducible assumption) | assumption)
      have q8494 : x5_1 < (t356.length : Int) := of_decide_eq_true (by first | (with_reducible assumption) | assumption)
      obtain ⟨ad8494, e8494, hx369_0, hx369_1⟩ := at_T66 (Kd.R_reads' HO_8480.out).2.2 x5_1 p8494 q8494
      cases e8494
      replace p8494 := eq_true p8494
      replace q8494 := eq_true q8494
      go_wp2
      repeat (go_quiet (fail); try go_wp2)
      go_loopg [6] kj22 (fun kq v6 w' => ∃ (x6_3 : Int), v6 = .int .i64 x6_3 ∧ Aside0 (laws_FnEarRanges.l1 kq t356 x5_1 x6_3 t347 t348 t349 t352 = some r) ∧ Aside0 (kq ≤ kj22) ∧ Aside0 (Kd.R k66 66 w' w.heap.size (fun _ => True) (.slice (some ad8494) t356.length co1800358) t356) ∧ Aside0 (Kd.R (Kd.int .u8) 5 w' w.heap.size (fun _ => True) (.slice Ao1780351 t349.length co1780351) t349) ∧ Aside0 (Kd.Q k68 68 w' w.heap.size (fun _ => True) (.slice Ao8122 t352.length co8122) t352) ∧ Aside0 (w'.heap[gb8120]? = some (.cells #[.int .i64 t347, .int .i64 t348, (.slice Ao1780351 t349.length co1780351), (.slice Ao8122 t352.length co8122)] 59 (0, 0))) ∧ Aside0 (Below w.heap.size w w'))
      case atStart => exact ⟨((rd_T66 t356 x5_1).f0), (by first | rfl | (simp; done) | (simp [*]; done)), H', ⟨Nat.le_refl _⟩, ⟨Kd.ur_ HO_8480.out⟩, ⟨Kd.ur_ HO_8481.out⟩, ⟨by (with_reducible repeat (first | apply Kd.Q_alloc | apply Kd.Q_drewN | apply Kd.Q_drew)); exact HO_8482.out⟩, ⟨u_ BK355.out⟩, ⟨us_ HB.out⟩⟩
      case round =>
       clear H'
       try clear c2
       try clear c2b0
       try clear c2b1
       try clear p2
       try clear c3
       try clear p3
       try clear q3
       try clear hx3
       try clear p6
       try clear c7
       try clear c8
       try clear c9
       try clear c22
       try clear c22b0
       try clear c24
       try clear c24b0
       try clear c25
       try clear c25b0
       try clear c27
       try clear c27b0
       try clear c29
       try clear c29b0
       try clear c30
       try clear c30b0
       try clear c8493
       try clear c34
       try clear c34b0
       try clear c35
       try clear c35b0
       try clear hcz1780355_0
       try clear hcz1780355_1
       try clear hcz1780355_2
       try clear hcz1780355_3
       try clear hcz1790355_0
       try clear hcz1790355_1
       try clear hcz1790355_2
       try clear hcz1790355_3
       try clear hcz1830355_0
       try clear hcz1830355_1
       try clear hcz1830355_2
       try clear hcz1830355_3
       try clear hcz1870355_0
       try clear hcz1870355_1
       try clear hcz1870355_2
       try clear hcz1870355_3
       try clear hcz1870355_0
       try clear hcz1870355_1
       try clear hcz1870355_2
       try clear hcz1870355_3
       try clear hcz1870355_0
       try clear hcz1870355_1
       try clear hcz1870355_2
       try clear hcz1870355_3
       try clear hfz1780355_0
       try clear hfz1780355_1
       try clear hfz1780355_2
       try clear hfz1780355_3
       try clear hfz1790355_0
       try clear hfz1790355_1
       try clear hfz1790355_2
       try clear hfz1790355_3
       try clear hfz1830355_0
       try clear hfz1830355_1
       try clear hfz1830355_2
       try clear hfz1830355_3
       try clear hfz1870355_0
       try clear hfz1870355_1
       try clear hfz1870355_2
       try clear hfz1870355_3
       try clear hfz1870355_0
       try clear hfz1870355_1
       try clear hfz1870355_2
       try clear hfz1870355_3
       try clear hfz1870355_0
       try clear hfz1870355_1
       try clear hfz1870355_2
       try clear hfz1870355_3
       try clear hx366_0
       try clear hx366_1
       try clear hx367_0
       try clear hx367_1
       try clear hx368_0
       try clear hx368_1
       try clear hx369_0
       try clear hx369_1
       try clear p2
       try clear p3
       try clear p8489
       try clear p8490
       try clear p8491
       try clear p8494
       try clear p6
       try clear q3
       try clear q8489
       try clear q8490
       try clear q8491
       try clear q8494
       obtain ⟨x6_3, rfl, HA, HK8495, HO_8480, HO_8481, HO_8482, BK355, HB⟩ := hrel
       cases gk with
       | zero => exact absurd HA.out (by simp [laws_FnEarRanges.l1])
       | succ k3 =>
        have H := HA.out
        clear HA
        simp only [laws_FnEarRanges.l1] at H
        by_cases c36 : 0 ≤ x5_1
        rotate_left
        ·rw [if_neg c36] at H
         exact absurd H (by simp)
        rw [if_pos c36] at H
        have c36b0 : decide (0 ≤ x5_1) = true := decide_eq_true c36
        clear c36
        by_cases c37 : x5_1 < (t356.length : Int)
        rotate_left
        ·rw [if_neg c37] at H
         exact absurd H (by simp)
        rw [if_pos c37] at H
        have c37b0 : decide (x5_1 < (t356.length : Int)) = true := decide_eq_true c37
        clear c37
        by_cases c38 : x6_3 < ((rd_T66 t356 x5_1).f1)
        rotate_left
        ·rw [if_neg c38] at H
         have c38b0 : decide (x6_3 < ((rd_T66 t356 x5_1).f1)) = false := decide_eq_false c38
         clear c38
         have H' := mk_ H
         clear H
         have p8496 : 0 ≤ (x5_1 : Int) := of_decide_eq_true (by first | (with_reducible assumption) | assumption)
         have q8496 : x5_1 < (t356.length : Int) := of_decide_eq_true (by first | (with_reducible assumption) | assumption)
         obtain ⟨ad8496, e8496, hx370_0, hx370_1⟩ := at_T66 (Kd.R_reads' HO_8480.out).2.2 x5_1 p8496 q8496
         obtain rfl : ad8494 = ad8496 := (by injection e8496)
         replace p8496 := eq_true p8496
         replace q8496 := eq_true q8496
         go_wp2
         repeat (go_quiet (fail); try go_wp2)
         go_roundg k3
         case measure => have := HK8084.out; have := HJ8492.out; have := HK8495.out; omega
         case rel => exact ⟨(wrap64 (x5_1 + 1)), (by first | rfl | (simp; done) | (simp [*]; done)), H', ⟨by have := HK8084.out; have := HJ8492.out; have := HK8495.out; omega⟩, ⟨Kd.ur_ HO_8480.out⟩, ⟨Kd.ur_ HO_8481.out⟩, ⟨by (with_reducible repeat (first | apply Kd.Q_alloc | apply Kd.Q_drewN | apply Kd.Q_drew)); exact HO_8482.out⟩, ⟨u_ BK355.out⟩, ⟨us_ HB.out⟩⟩
        rw [if_pos c38] at H
        have c38b0 : decide (x6_3 < ((rd_T66 t356 x5_1).f1)) = true := decide_eq_true c38
        clear c38
        have H' := mk_ H
        clear H
        have p8496 : 0 ≤ (x5_1 : Int) := of_decide_eq_true (by first | (with_reducible assumption) | assumption)
        have q8496 : x5_1 < (t356.length : Int) := of_decide_eq_true (by first | (with_reducible assumption) | assumption)
        obtain ⟨ad8496, e8496, hx370_0, hx370_1⟩ := at_T66 (Kd.R_reads' HO_8480.out).2.2 x5_1 p8496 q8496
        obtain rfl : ad8494 = ad8496 := (by injection e8496)
        replace p8496 := eq_true p8496
        replace q8496 := eq_true q8496
        go_wp2
        repeat (go_quiet (fail); try go_wp2)
        go_loopg [7, 8] k3 (fun kq v7 v8 w' => ∃ (x7_4 : Bool) (x8_4 : Int), v7 = .bool x7_4 ∧ v8 = .int .i64 x8_4 ∧ Aside0 (laws_FnEarRanges.l2 kq t356 x5_1 x6_3 x7_4 x8_4 t347 t348 t349 t352 = some r) ∧ Aside0 (kq ≤ k3) ∧ Aside0 (Kd.R k66 66 w' w.heap.size (fun _ => True) (.slice (some ad8494) t356.length co1800358) t356) ∧ Aside0 (Kd.R (Kd.int .u8) 5 w' w.heap.size (fun _ => True) (.slice Ao1780351 t349.length co1780351) t349) ∧ Aside0 (Kd.Q k68 68 w' w.heap.size (fun _ => True) (.slice Ao8122 t352.length co8122) t352) ∧ Aside0 (w'.heap[gb8120]? = some (.cells #[.int .i64 t347, .int .i64 t348, (.slice Ao1780351 t349.length co1780351), (.slice Ao8122 t352.length co8122)] 59 (0, 0))) ∧ Aside0 (Below w.heap.size w w'))
        case atStart => exact ⟨(false), (0), (by first | rfl | (simp; done) | (simp [*]; done)), (by first | rfl | (simp; done) | (simp [*]; done)), H', ⟨Nat.le_refl _⟩, ⟨Kd.ur_ HO_8480.out⟩, ⟨Kd.ur_ HO_8481.out⟩, ⟨by (with_reducible repeat (first | apply Kd.Q_alloc | apply Kd.Q_drewN | apply Kd.Q_drew)); exact HO_8482.out⟩, ⟨u_ BK355.out⟩, ⟨us_ HB.out⟩⟩
        case round =>
         clear H'
         try clear c2
         try clear c2b0
         try clear c2b1
         try clear p2
         try clear c3
         try clear p3
         try clear q3
         try clear hx3
         try clear p6
         try clear c7
         try clear c8
         try clear c9
         try clear c22
         try clear c22b0
         try clear c24
         try clear c24b0
         try clear c25
         try clear c25b0
         try clear c27
         try clear c27b0
         try clear c29
         try clear c29b0
         try clear c30
         try clear c30b0
         try clear c8493
         try clear c34
         try clear c34b0
         try clear c35
         try clear c35b0
         try clear c36
         try clear c36b0
         try clear p36
         try clear q36
         try clear hx36
         try clear c37
         try clear c37b0
         try clear p37
         try clear q37
         try clear hx37
         try clear c38
         try clear c38b0
         try clear hcz1780355_0
         try clear hcz1780355_1
         try clear hcz1780355_2
         try clear hcz1780355_3
         try clear hcz1790355_0
         try clear hcz1790355_1
         try clear hcz1790355_2
         try clear hcz1790355_3
         try clear hcz1830355_0
         try clear hcz1830355_1
         try clear hcz1830355_2
         try clear hcz1830355_3
         try clear hcz1870355_0
         try clear hcz1870355_1
         try clear hcz1870355_2
         try clear hcz1870355_3
         try clear hcz1870355_0
         try clear hcz1870355_1
         try clear hcz1870355_2
         try clear hcz1870355_3
         try clear hcz1870355_0
         try clear hcz1870355_1
         try clear hcz1870355_2
         try clear hcz1870355_3
         try clear hfz1780355_0
         try clear hfz1780355_1
         try clear hfz1780355_2
         try clear hfz1780355_3
         try clear hfz1790355_0
         try clear hfz1790355_1
         try clear hfz1790355_2
         try clear hfz1790355_3
         try clear hfz1830355_0
         try clear hfz1830355_1
         try clear hfz1830355_2
         try clear hfz1830355_3
         try clear hfz1870355_0
         try clear hfz1870355_1
         try clear hfz1870355_2
         try clear hfz1870355_3
         try clear hfz1870355_0
         try clear hfz1870355_1
         try clear hfz1870355_2
         try clear hfz1870355_3
         try clear hfz1870355_0
         try clear hfz1870355_1
         try clear hfz1870355_2
         try clear hfz1870355_3
         try clear hx366_0
         try clear hx366_1
         try clear hx367_0
         try clear hx367_1
         try clear hx368_0
         try clear hx368_1
         try clear hx369_0
         try clear hx369_1
         try clear hx370_0
         try clear hx370_1
         try clear p2
         try clear p3
         try clear p8489
         try clear p8490
         try clear p8491
         try clear p8494
         try clear p8496
         try clear p6
         try clear q3
         try clear q8489
         try clear q8490
         try clear q8491
         try clear q8494
         try clear q8496
         obtain ⟨x7_4, x8_4, rfl, rfl, HA, HK8480, HO_8480, HO_8481, HO_8482, BK355, HB⟩ := hrel
         cases gk with
         | zero => exact absurd HA.out (by simp [laws_FnEarRanges.l2])
         | succ k4 =>
          have H := HA.out
          clear HA
          simp only [laws_FnEarRanges.l2] at H
          by_cases c39 : x8_4 < (t352.length : Int)
          rotate_left
          focus
           rw [if_neg c39] at H
           have c39b0 : decide (x8_4 < (t352.length : Int)) = false := decide_eq_false c39
           clear c39
           by_cases c8497 : x7_4 = true
           rotate_left
           focus
            replace c8497 := Bool.eq_false_iff.mpr c8497
            subst c8497
            have H1 : (some false) = some r := by rw [if_neg (show ¬ (false = true) by decide)] at H; exact H
            clear H
            have H := H1
            clear H1
            obtain rfl := Option.some.inj H
            obtain ⟨_, _, _, _, _, _, _, _⟩ := cells4_ BK355.out
           rotate_left
           focus
            subst c8497
            rw [if_pos rfl] at H
            have H' := mk_ H
            clear H
            obtain ⟨_, _, _, _, _, _, _, _⟩ := cells4_ BK355.out
           rotate_left
          rotate_left 2
          focus
           rw [if_pos c39] at H
           have c39b0 : decide (x8_4 < (t352.length : Int)) = true := decide_eq_true c39
           clear c39
           by_cases c8498 : x7_4 = true
           focus
            subst c8498
            rw [if_pos rfl] at H
            have H' := mk_ H
            clear H
            obtain ⟨_, _, _, _, _, _, _, _⟩ := cells4_ BK355.out
           rotate_left
           focus
            replace c8498 := Bool.eq_false_iff.mpr c8498
            subst c8498
            rw [if_neg (show ¬ (false = true) by decide)] at H
            by_cases c42 : 0 ≤ x8_4
            rotate_left
            ·rw [if_neg c42] at H
             exact absurd H (by simp)
            rw [if_pos c42] at H
            have c42b0 : decide (0 ≤ x8_4) = true := decide_eq_true c42
            clear c42
            have H' := mk_ H
            clear H
            obtain ⟨_, _, _, _, _, _, _, _⟩ := cells4_ BK355.out
            have p8499 : 0 ≤ (x8_4 : Int) := of_decide_eq_true (by first | (with_reducible assumption) | assumption)
            have q8499 : x8_4 < (t352.length : Int) := of_decide_eq_true (by first | (with_reducible assumption) | assumption)
            obtain ⟨ad8499, e8499, hx371_0, hx371_1⟩ := at_T68 (Kd.Q_reads' HO_8482.out).2.2 x8_4 p8499 q8499
            cases e8499
            replace p8499 := eq_true p8499
            replace q8499 := eq_true q8499
           rotate_left
          rotate_left 2
          all_goals
           go_wp2
           repeat (go_quiet (fail); try go_wp2)
          ·go_ret
           exact ⟨by first | rfl | (simp [errW_none, errW_some] <;> rfl) | (simp [*, errW_none, errW_some] <;> rfl), us_ HB.out⟩
          all_goals
           go_roundg k4
           case measure => have := HK8084.out; have := HJ8492.out; have := HK8495.out; have := HK8480.out; omega
          ·case rel => exact ⟨(wrap64 (x6_3 + 1)), (by first | rfl | (simp; done) | (simp [*]; done)), H', ⟨by have := HK8084.out; have := HJ8492.out; have := HK8495.out; have := HK8480.out; omega⟩, ⟨Kd.ur_ HO_8480.out⟩, ⟨Kd.ur_ HO_8481.out⟩, ⟨by (with_reducible repeat (first | apply Kd.Q_alloc | apply Kd.Q_drewN | apply Kd.Q_drew)); exact HO_8482.out⟩, ⟨u_ BK355.out⟩, ⟨us_ HB.out⟩⟩
          ·case rel => exact ⟨(true), (wrap64 (x8_4 + 1)), (by first | rfl | (simp; done) | (simp [*]; done)), (by first | rfl | (simp; done) | (simp [*]; done)), H', ⟨by have := HK8084.out; have := HJ8492.out; have := HK8495.out; have := HK8480.out; omega⟩, ⟨Kd.ur_ HO_8480.out⟩, ⟨Kd.ur_ HO_8481.out⟩, ⟨by (with_reducible repeat (first | apply Kd.Q_alloc | apply Kd.Q_drewN | apply Kd.Q_drew)); exact HO_8482.out⟩, ⟨u_ BK355.out⟩, ⟨us_ HB.out⟩⟩
          ·case rel => exact ⟨((((rd_T68 t352 x8_4).f0) == x6_3)), (wrap64 (x8_4 + 1)), (by first | rfl | (simp; done) | (simp [*]; done)), (by first | rfl | (simp; done) | (simp [*]; done)), H', ⟨by have := HK8084.out; have := HJ8492.out; have := HK8495.out; have := HK8480.out; omega⟩, ⟨Kd.ur_ HO_8480.out⟩, ⟨Kd.ur_ HO_8481.out⟩, ⟨by (with_reducible repeat (first | apply Kd.Q_alloc | apply Kd.Q_drewN | apply Kd.Q_drew)); exact HO_8482.out⟩, ⟨u_ BK355.out⟩, ⟨us_ HB.out⟩⟩

/-- THE ONE PURE STATEMENT of laws_FnEarRanges: yours. -/
def laws_FnEarRanges.Pure : Prop := ∀ (l0 : List Int), l0.length ≤ maxLen → l0.length * 1 ≤ 140737488351232 → (∀ x ∈ l0, (Lit.int .u8 x).wf = true) → ∃ k, laws_FnEarRanges.f k l0 = some true
theorem laws_FnEarRanges.walk (P : laws_FnEarRanges.Pure) (a0 : Option Addr) (len0 cap0 : Nat) (z0 : List Int) (w : World) (w0 : (a0 = none ∧ len0 = 0 ∧ cap0 = 0 ∧ z0 = []) ∨ ∃ x, a0 = some x ∧ len0 ≤ cap0 ∧ cap0 ≤ maxLen ∧ z0.length = cap0 ∧ (∀ i, i < z0.length → w.cell? (x.add i) = some (.int .u8 (z0.getD i 0))) ∧ ∀ n ∈ z0, (Lit.int .u8 n).wf = true) (y0 : len0 * 1 ≤ 140737488351232) :
  Calls Try.prog 8 #[.slice a0 len0 cap0] w fun e w' => e = .returned (.bool true) ∧ Below w.heap.size w w' := by
 obtain ⟨l0, rfl, hr0, hm0, hw0, hc0⟩ := ReadsInt.ofRowC w0
 obtain ⟨k, h⟩ := P l0 hm0 y0 hw0
 refine (laws_FnEarRanges.calls k _ _ l0 true w (Kd.C_of_reads (d := (0 : Int)) (h1 := fun _ => rfl) hr0) hc0 h).mono ?_
 rintro e w' ⟨rfl, hd⟩
 exact ⟨rfl, hd⟩

end Go.Proofs.Ytkkibccnpkbbjab.MFnEarRanges
