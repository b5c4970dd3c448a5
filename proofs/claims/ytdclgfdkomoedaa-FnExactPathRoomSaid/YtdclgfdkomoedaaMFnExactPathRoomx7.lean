/- Functions that the law FnExactPathRoom reaches, each with the proof that the machine's call comes to just its answer; no conditions but those that each theorem states. Printed by a program of this session over the kit's print. -/
import Derived.Test.YtdclgfdkomoedaaMFnExactPathRoomx0
namespace Go.Proofs.Ytdclgfdkomoedaa.MFnExactPathRoom
open Go.RowKit Go.Proofs.YtdclgfdkomoedaaV.PrintWords Go.Proofs.YtdclgfdkomoedaaV.PrintLast Go.Proofs.YtdclgfdkomoedaaV.PrintMore
attribute [local go_sem] max2_int min2_int max_two min_two max_three min_three max_four min_four   -- for this text's walks alone
set_option linter.unusedVariables false
set_option linter.unusedSimpArgs false

/-! ### laws_eqRoute: function 150 -/
def laws_eqRoute.f (a0_0 : Int) (a0_1 : Int) (a0_2 : Int) (a0_3 : Int) (a1_0 : Int) (a1_1 : Int) (a1_2 : Int) (a1_3 : Int) : Option (Bool) := if a0_0 = a1_0 then (if a0_1 = a1_1 then (if a0_2 = a1_2 then (if a0_3 = a1_3 then (some true) else (some false)) else (some false)) else (some false)) else (some false)
set_option maxHeartbeats 8000000 in
set_option maxRecDepth 100000 in
theorem laws_eqRoute.calls (a0_0 : Int) (a0_1 : Int) (a0_2 : Int) (a0_3 : Int) (a1_0 : Int) (a1_1 : Int) (a1_2 : Int) (a1_3 : Int) (r : Bool) (w : World) (h : laws_eqRoute.f a0_0 a0_1 a0_2 a0_3 a1_0 a1_1 a1_2 a1_3 = some r) :
  Calls Try.prog 150 #[.agg #[.int .i64 a0_0, .int .i64 a0_1, .int .i64 a0_2, .int .i64 a0_3], .agg #[.int .i64 a1_0, .int .i64 a1_1, .int .i64 a1_2, .int .i64 a1_3]] w fun e w' => e = .returned (.bool r) ∧ Below w.heap.size w w' := by
 have hu51 := Try.underlying51
 have HB := mk_ (Below.refl w.heap.size w)
 have H : (if a0_0 = a1_0 then (if a0_1 = a1_1 then (if a0_2 = a1_2 then (if a0_3 = a1_3 then (some true) else (some false)) else (some false)) else (some false)) else (some false)) = some r := h
 clear h
 by_cases c3 : a0_0 = a1_0
 rotate_left
 ·rw [if_neg c3] at H
  have c3b0 : (a0_0 == a1_0) = false := beq_eq_false_iff_ne.mpr c3
  have c3b1 : (a0_0 != a1_0) = true := bne_iff_ne.mpr c3
  obtain rfl := Option.some.inj H
  go_enter Try.func150, Try.ntmps150
  go_wp2_with (first | ((with_reducible refine gate_dst (N := 2) rfl ?_); refine box_event ?hg (N := 2) ?hd (cs := #[.int .i64 a0_0, .int .i64 a0_1, .int .i64 a0_2, .int .i64 a0_3]) (t := 51) ?hr ?_; (case hd => rfl); (case hg => rfl); (case hr => first | (go_simp; done) | (go_simp; rfl)); intro gb218 hg w27 hbox hb; have n0_ := mk_ (below_step (ub_ HB.out) hb); have n1_ := mk_ (hbox); have n2_ := mk_ ((by rw [hg]; exact (below_size (ub_ HB.out)) : w.heap.size ≤ gb218)); have n3_ := mk_ ((by rw [hg]; exact (below_size (ub_ HB.out)) : w.heap.size ≤ gb218)); clear HB; have HB := n0_; have BK218 := n1_; have GW218 := n2_; have GE218 := ge_ n3_.out; clear n0_ n1_ n2_ n3_; clear hb hbox hg) | ((with_reducible refine gate_dst (N := 3) rfl ?_); refine box_event ?hg (N := 3) ?hd (cs := #[.int .i64 a1_0, .int .i64 a1_1, .int .i64 a1_2, .int .i64 a1_3]) (t := 51) ?hr ?_; (case hd => rfl); (case hg => rfl); (case hr => first | (go_simp; done) | (go_simp; rfl)); intro gb219 hg w28 hbox hb; have n0_ := mk_ (blk_below (u_ BK218.out) hb); have n1_ := mk_ (below_step (us_ HB.out) hb); have n2_ := mk_ (hbox); have n3_ := mk_ ((by rw [hg]; exact (below_size (us_ HB.out)) : w.heap.size ≤ gb219)); have n4_ := mk_ ((by rw [hg]; exact (below_size (us_ HB.out)) : w.heap.size ≤ gb219)); have n5_ := mk_ ((by rw [hg]; exact Nat.ne_of_lt (blk_lt (u_ BK218.out)) : gb218 ≠ gb219)); have n6_ := mk_ ((by rw [hg]; exact Nat.ne_of_gt (blk_lt (u_ BK218.out)) : gb219 ≠ gb218)); clear BK218; clear HB; have BK218 := n0_; have HB := n1_; have BK219 := n2_; have GW219 := n3_; have GE219 := ge_ n4_.out; have NB218_219 := nq_ n5_.out; have NB219_218 := nq_ n6_.out; clear n0_ n1_ n2_ n3_ n4_ n5_ n6_; clear hb hbox hg; have hnb29 := NB218_219.out; have hnc29 := NB219_218.out; obtain ⟨hcz30_0, hcz30_1, hcz30_2, hcz30_3, hfz30_0, hfz30_1, hfz30_2, hfz30_3⟩ := cells4_ BK218.out; obtain ⟨hcz31_0, hcz31_1, hcz31_2, hcz31_3, hfz31_0, hfz31_1, hfz31_2, hfz31_3⟩ := cells4_ BK219.out))
  go_ret
  exact ⟨by first | rfl | (simp [errW_none, errW_some] <;> rfl) | (simp [*, errW_none, errW_some] <;> rfl), us_ HB.out⟩
 rw [if_pos c3] at H
 have c3b0 : (a0_0 == a1_0) = true := beq_iff_eq.mpr c3
 have c3b1 : (a0_0 != a1_0) = false := bne_eq_false_iff_eq.mpr c3
 clear c3
 by_cases c4 : a0_1 = a1_1
 rotate_left
 ·rw [if_neg c4] at H
  have c4b0 : (a0_1 == a1_1) = false := beq_eq_false_iff_ne.mpr c4
  have c4b1 : (a0_1 != a1_1) = true := bne_iff_ne.mpr c4
  obtain rfl := Option.some.inj H
  go_enter Try.func150, Try.ntmps150
  go_wp2_with (first | ((with_reducible refine gate_dst (N := 2) rfl ?_); refine box_event ?hg (N := 2) ?hd (cs := #[.int .i64 a0_0, .int .i64 a0_1, .int .i64 a0_2, .int .i64 a0_3]) (t := 51) ?hr ?_; (case hd => rfl); (case hg => rfl); (case hr => first | (go_simp; done) | (go_simp; rfl)); intro gb218 hg w22 hbox hb; have n0_ := mk_ (below_step (ub_ HB.out) hb); have n1_ := mk_ (hbox); have n2_ := mk_ ((by rw [hg]; exact (below_size (ub_ HB.out)) : w.heap.size ≤ gb218)); have n3_ := mk_ ((by rw [hg]; exact (below_size (ub_ HB.out)) : w.heap.size ≤ gb218)); clear HB; have HB := n0_; have BK218 := n1_; have GW218 := n2_; have GE218 := ge_ n3_.out; clear n0_ n1_ n2_ n3_; clear hb hbox hg) | ((with_reducible refine gate_dst (N := 3) rfl ?_); refine box_event ?hg (N := 3) ?hd (cs := #[.int .i64 a1_0, .int .i64 a1_1, .int .i64 a1_2, .int .i64 a1_3]) (t := 51) ?hr ?_; (case hd => rfl); (case hg => rfl); (case hr => first | (go_simp; done) | (go_simp; rfl)); intro gb219 hg w23 hbox hb; have n0_ := mk_ (blk_below (u_ BK218.out) hb); have n1_ := mk_ (below_step (us_ HB.out) hb); have n2_ := mk_ (hbox); have n3_ := mk_ ((by rw [hg]; exact (below_size (us_ HB.out)) : w.heap.size ≤ gb219)); have n4_ := mk_ ((by rw [hg]; exact (below_size (us_ HB.out)) : w.heap.size ≤ gb219)); have n5_ := mk_ ((by rw [hg]; exact Nat.ne_of_lt (blk_lt (u_ BK218.out)) : gb218 ≠ gb219)); have n6_ := mk_ ((by rw [hg]; exact Nat.ne_of_gt (blk_lt (u_ BK218.out)) : gb219 ≠ gb218)); clear BK218; clear HB; have BK218 := n0_; have HB := n1_; have BK219 := n2_; have GW219 := n3_; have GE219 := ge_ n4_.out; have NB218_219 := nq_ n5_.out; have NB219_218 := nq_ n6_.out; clear n0_ n1_ n2_ n3_ n4_ n5_ n6_; clear hb hbox hg; have hnb24 := NB218_219.out; have hnc24 := NB219_218.out; obtain ⟨hcz25_0, hcz25_1, hcz25_2, hcz25_3, hfz25_0, hfz25_1, hfz25_2, hfz25_3⟩ := cells4_ BK218.out; obtain ⟨hcz26_0, hcz26_1, hcz26_2, hcz26_3, hfz26_0, hfz26_1, hfz26_2, hfz26_3⟩ := cells4_ BK219.out))
  go_ret
  exact ⟨by first | rfl | (simp [errW_none, errW_some] <;> rfl) | (simp [*, errW_none, errW_some] <;> rfl), us_ HB.out⟩
 rw [if_pos c4] at H
 have c4b0 : (a0_1 == a1_1) = true := beq_iff_eq.mpr c4
 have c4b1 : (a0_1 != a1_1) = false := bne_eq_false_iff_eq.mpr c4
 clear c4
 by_cases c5 : a0_2 = a1_2
 rotate_left
 ·rw [if_neg c5] at H
  have c5b0 : (a0_2 == a1_2) = false := beq_eq_false_iff_ne.mpr c5
  have c5b1 : (a0_2 != a1_2) = true := bne_iff_ne.mpr c5
  obtain rfl := Option.some.inj H
  go_enter Try.func150, Try.ntmps150
  go_wp2_with (first | ((with_reducible refine gate_dst (N := 2) rfl ?_); refine box_event ?hg (N := 2) ?hd (cs := #[.int .i64 a0_0, .int .i64 a0_1, .int .i64 a0_2, .int .i64 a0_3]) (t := 51) ?hr ?_; (case hd => rfl); (case hg => rfl); (case hr => first | (go_simp; done) | (go_simp; rfl)); intro gb218 hg w17 hbox hb; have n0_ := mk_ (below_step (ub_ HB.out) hb); have n1_ := mk_ (hbox); have n2_ := mk_ ((by rw [hg]; exact (below_size (ub_ HB.out)) : w.heap.size ≤ gb218)); have n3_ := mk_ ((by rw [hg]; exact (below_size (ub_ HB.out)) : w.heap.size ≤ gb218)); clear HB; have HB := n0_; have BK218 := n1_; have GW218 := n2_; have GE218 := ge_ n3_.out; clear n0_ n1_ n2_ n3_; clear hb hbox hg) | ((with_reducible refine gate_dst (N := 3) rfl ?_); refine box_event ?hg (N := 3) ?hd (cs := #[.int .i64 a1_0, .int .i64 a1_1, .int .i64 a1_2, .int .i64 a1_3]) (t := 51) ?hr ?_; (case hd => rfl); (case hg => rfl); (case hr => first | (go_simp; done) | (go_simp; rfl)); intro gb219 hg w18 hbox hb; have n0_ := mk_ (blk_below (u_ BK218.out) hb); have n1_ := mk_ (below_step (us_ HB.out) hb); have n2_ := mk_ (hbox); have n3_ := mk_ ((by rw [hg]; exact (below_size (us_ HB.out)) : w.heap.size ≤ gb219)); have n4_ := mk_ ((by rw [hg]; exact (below_size (us_ HB.out)) : w.heap.size ≤ gb219)); have n5_ := mk_ ((by rw [hg]; exact Nat.ne_of_lt (blk_lt (u_ BK218.out)) : gb218 ≠ gb219)); have n6_ := mk_ ((by rw [hg]; exact Nat.ne_of_gt (blk_lt (u_ BK218.out)) : gb219 ≠ gb218)); clear BK218; clear HB; have BK218 := n0_; have HB := n1_; have BK219 := n2_; have GW219 := n3_; have GE219 := ge_ n4_.out; have NB218_219 := nq_ n5_.out; have NB219_218 := nq_ n6_.out; clear n0_ n1_ n2_ n3_ n4_ n5_ n6_; clear hb hbox hg; have hnb19 := NB218_219.out; have hnc19 := NB219_218.out; obtain ⟨hcz20_0, hcz20_1, hcz20_2, hcz20_3, hfz20_0, hfz20_1, hfz20_2, hfz20_3⟩ := cells4_ BK218.out; obtain ⟨hcz21_0, hcz21_1, hcz21_2, hcz21_3, hfz21_0, hfz21_1, hfz21_2, hfz21_3⟩ := cells4_ BK219.out))
  go_ret
  exact ⟨by first | rfl | (simp [errW_none, errW_some] <;> rfl) | (simp [*, errW_none, errW_some] <;> rfl), us_ HB.out⟩
 rw [if_pos c5] at H
 have c5b0 : (a0_2 == a1_2) = true := beq_iff_eq.mpr c5
 have c5b1 : (a0_2 != a1_2) = false := bne_eq_false_iff_eq.mpr c5
 clear c5
 by_cases c6 : a0_3 = a1_3
 rotate_left
 ·rw [if_neg c6] at H
  have c6b0 : (a0_3 == a1_3) = false := beq_eq_false_iff_ne.mpr c6
  have c6b1 : (a0_3 != a1_3) = true := bne_iff_ne.mpr c6
  obtain rfl := Option.some.inj H
  go_enter Try.func150, Try.ntmps150
  go_wp2_with (first | ((with_reducible refine gate_dst (N := 2) rfl ?_); refine box_event ?hg (N := 2) ?hd (cs := #[.int .i64 a0_0, .int .i64 a0_1, .int .i64 a0_2, .int .i64 a0_3]) (t := 51) ?hr ?_; (case hd => rfl); (case hg => rfl); (case hr => first | (go_simp; done) | (go_simp; rfl)); intro gb218 hg w12 hbox hb; have n0_ := mk_ (below_step (ub_ HB.out) hb); have n1_ := mk_ (hbox); have n2_ := mk_ ((by rw [hg]; exact (below_size (ub_ HB.out)) : w.heap.size ≤ gb218)); have n3_ := mk_ ((by rw [hg]; exact (below_size (ub_ HB.out)) : w.heap.size ≤ gb218)); clear HB; have HB := n0_; have BK218 := n1_; have GW218 := n2_; have GE218 := ge_ n3_.out; clear n0_ n1_ n2_ n3_; clear hb hbox hg) | ((with_reducible refine gate_dst (N := 3) rfl ?_); refine box_event ?hg (N := 3) ?hd (cs := #[.int .i64 a1_0, .int .i64 a1_1, .int .i64 a1_2, .int .i64 a1_3]) (t := 51) ?hr ?_; (case hd => rfl); (case hg => rfl); (case hr => first | (go_simp; done) | (go_simp; rfl)); intro gb219 hg w13 hbox hb; have n0_ := mk_ (blk_below (u_ BK218.out) hb); have n1_ := mk_ (below_step (us_ HB.out) hb); have n2_ := mk_ (hbox); have n3_ := mk_ ((by rw [hg]; exact (below_size (us_ HB.out)) : w.heap.size ≤ gb219)); have n4_ := mk_ ((by rw [hg]; exact (below_size (us_ HB.out)) : w.heap.size ≤ gb219)); have n5_ := mk_ ((by rw [hg]; exact Nat.ne_of_lt (blk_lt (u_ BK218.out)) : gb218 ≠ gb219)); have n6_ := mk_ ((by rw [hg]; exact Nat.ne_of_gt (blk_lt (u_ BK218.out)) : gb219 ≠ gb218)); clear BK218; clear HB; have BK218 := n0_; have HB := n1_; have BK219 := n2_; have GW219 := n3_; have GE219 := ge_ n4_.out; have NB218_219 := nq_ n5_.out; have NB219_218 := nq_ n6_.out; clear n0_ n1_ n2_ n3_ n4_ n5_ n6_; clear hb hbox hg; have hnb14 := NB218_219.out; have hnc14 := NB219_218.out; obtain ⟨hcz15_0, hcz15_1, hcz15_2, hcz15_3, hfz15_0, hfz15_1, hfz15_2, hfz15_3⟩ := cells4_ BK218.out; obtain ⟨hcz16_0, hcz16_1, hcz16_2, hcz16_3, hfz16_0, hfz16_1, hfz16_2, hfz16_3⟩ := cells4_ BK219.out))
  go_ret
  exact ⟨by first | rfl | (simp [errW_none, errW_some] <;> rfl) | (simp [*, errW_none, errW_some] <;> rfl), us_ HB.out⟩
 rw [if_pos c6] at H
 have c6b0 : (a0_3 == a1_3) = true := beq_iff_eq.mpr c6
 have c6b1 : (a0_3 != a1_3) = false := bne_eq_false_iff_eq.mpr c6
 clear c6
 obtain rfl := Option.some.inj H
 go_enter Try.func150, Try.ntmps150
 go_wp2_with (first | ((with_reducible refine gate_dst (N := 2) rfl ?_); refine box_event ?hg (N := 2) ?hd (cs := #[.int .i64 a0_0, .int .i64 a0_1, .int .i64 a0_2, .int .i64 a0_3]) (t := 51) ?hr ?_; (case hd => rfl); (case hg => rfl); (case hr => first | (go_simp; done) | (go_simp; rfl)); intro gb218 hg w7 hbox hb; have n0_ := mk_ (below_step (ub_ HB.out) hb); have n1_ := mk_ (hbox); have n2_ := mk_ ((by rw [hg]; exact (below_size (ub_ HB.out)) : w.heap.size ≤ gb218)); have n3_ := mk_ ((by rw [hg]; exact (below_size (ub_ HB.out)) : w.heap.size ≤ gb218)); clear HB; have HB := n0_; have BK218 := n1_; have GW218 := n2_; have GE218 := ge_ n3_.out; clear n0_ n1_ n2_ n3_; clear hb hbox hg) | ((with_reducible refine gate_dst (N := 3) rfl ?_); refine box_event ?hg (N := 3) ?hd (cs := #[.int .i64 a1_0, .int .i64 a1_1, .int .i64 a1_2, .int .i64 a1_3]) (t := 51) ?hr ?_; (case hd => rfl); (case hg => rfl); (case hr => first | (go_simp; done) | (go_simp; rfl)); intro gb219 hg w8 hbox hb; have n0_ := mk_ (blk_below (u_ BK218.out) hb); have n1_ := mk_ (below_step (us_ HB.out) hb); have n2_ := mk_ (hbox); have n3_ := mk_ ((by rw [hg]; exact (below_size (us_ HB.out)) : w.heap.size ≤ gb219)); have n4_ := mk_ ((by rw [hg]; exact (below_size (us_ HB.out)) : w.heap.size ≤ gb219)); have n5_ := mk_ ((by rw [hg]; exact Nat.ne_of_lt (blk_lt (u_ BK218.out)) : gb218 ≠ gb219)); have n6_ := mk_ ((by rw [hg]; exact Nat.ne_of_gt (blk_lt (u_ BK218.out)) : gb219 ≠ gb218)); clear BK218; clear HB; have BK218 := n0_; have HB := n1_; have BK219 := n2_; have GW219 := n3_; have GE219 := ge_ n4_.out; have NB218_219 := nq_ n5_.out; have NB219_218 := nq_ n6_.out; clear n0_ n1_ n2_ n3_ n4_ n5_ n6_; clear hb hbox hg; have hnb9 := NB218_219.out; have hnc9 := NB219_218.out; obtain ⟨hcz10_0, hcz10_1, hcz10_2, hcz10_3, hfz10_0, hfz10_1, hfz10_2, hfz10_3⟩ := cells4_ BK218.out; obtain ⟨hcz11_0, hcz11_1, hcz11_2, hcz11_3, hfz11_0, hfz11_1, hfz11_2, hfz11_3⟩ := cells4_ BK219.out))
 go_ret
 exact ⟨by first | rfl | (simp [errW_none, errW_some] <;> rfl) | (simp [*, errW_none, errW_some] <;> rfl), us_ HB.out⟩

/-! ### laws_eqRouteS: function 116 -/
def laws_eqRouteS.l0 : Nat → List (S51) → List (S51) → Int → Option (Bool)
 | 0, _, _, _ => none
 | k + 1, x0, x1, x5 => if x5 < (x0.length : Int) then (if 0 ≤ x5 then (if x5 < (x1.length : Int) then ((laws_eqRoute.f ((rd_T51 x0 x5).f0) ((rd_T51 x0 x5).f1) ((rd_T51 x0 x5).f2) ((rd_T51 x0 x5).f3) ((rd_T51 x1 x5).f0) ((rd_T51 x1 x5).f1) ((rd_T51 x1 x5).f2) ((rd_T51 x1 x5).f3)).bind fun t222 => (if t222 = true then (laws_eqRouteS.l0 k x0 x1 (wrap64 (x5 + 1))) else (some false))) else (none)) else (none)) else (some true)
def laws_eqRouteS.f (k : Nat) (l0 : List (S51)) (l1 : List (S51)) : Option (Bool) := if (l0.length : Int) = (l1.length : Int) then (laws_eqRouteS.l0 k l0 l1 0) else (some false)
theorem laws_eqRouteS.mono_l : ∀ k, (∀ y0 y1 y2, LeO (laws_eqRouteS.l0 k y0 y1 y2) (laws_eqRouteS.l0 (k + 1) y0 y1 y2))
 | 0 => fun _ _ _ r h => by simp [laws_eqRouteS.l0] at h
 | k + 1 => by
  have ih0 := laws_eqRouteS.mono_l k
  ·intro y0 y1 y2
   unfold laws_eqRouteS.l0
   repeat' first
   | (with_reducible exact ih0 _ _ _)
   | (with_reducible exact LeO.refl _)
   | (with_reducible exact LeO.none _)
   | (with_reducible refine LeO.ite ?_ ?_)
   | (with_reducible refine LeO.bind ?_ (fun _ => ?_))
   | exact ih0 _ _ _
   | exact LeO.none _
   | refine LeO.ite ?_ ?_
   | refine LeO.bind ?_ (fun _ => ?_)
theorem laws_eqRouteS.mono : ∀ a0 a1 k, LeO (laws_eqRouteS.f k a0 a1) (laws_eqRouteS.f (k + 1) a0 a1) := by
 intro a0 a1 k
 have ih0 := laws_eqRouteS.mono_l k
 unfold laws_eqRouteS.f
 repeat' first
   | (with_reducible exact ih0 _ _ _)
   | (with_reducible exact LeO.refl _)
   | (with_reducible exact LeO.none _)
   | (with_reducible refine LeO.ite ?_ ?_)
   | (with_reducible refine LeO.bind ?_ (fun _ => ?_))
   | exact ih0 _ _ _
   | exact LeO.none _
   | refine LeO.ite ?_ ?_
   | refine LeO.bind ?_ (fun _ => ?_)
def laws_eqRouteS.T6 : Bool × List (List Nat × List Nat) := (true, [([], []), ([], []), ([0, 1], [0, 1]), ([2], [2]), ([], []), ([], []), ([4, 5], [4, 5]), ([6], [6]), ([3, 7], [3, 7]), ([8], [8])])
def laws_eqRouteS.B6 : List Nat := [0, 0, 3, 7, 0, 0, 48, 112, 255, 511]
theorem laws_eqRouteS.tab6 : rtab .any (opsOf Try.f116 6) = laws_eqRouteS.T6 := by kernel_rfl
theorem laws_eqRouteS.bits6 : waitsOk laws_eqRouteS.T6.2 laws_eqRouteS.B6 = true := by kernel_rfl
set_option maxHeartbeats 8000000 in
set_option maxRecDepth 100000 in
theorem laws_eqRouteS.calls (k : Nat) (A0 : Option Addr) (c0 : Nat) (l0 : List (S51)) (A1 : Option Addr) (c1 : Nat) (l1 : List (S51)) (r : Bool) (w : World) (hr0 : Kd.C k51 w A0 l0.length l0) (hc0 : l0.length ≤ c0) (hr1 : Kd.C k51 w A1 l1.length l1) (hc1 : l1.length ≤ c1) (h : laws_eqRouteS.f k l0 l1 = some r) :
  Calls Try.prog 116 #[.slice A0 l0.length c0, .slice A1 l1.length c1] w fun e w' => e = .returned (.bool r) ∧ Below w.heap.size w w' := by
 have hu51 := Try.underlying51
 have HR0 := mk_ hr0
 have HC0 := mk_ hc0
 clear hr0 hc0
 have HR1 := mk_ hr1
 have HC1 := mk_ hc1
 clear hr1 hc1
 have HB := mk_ (Below.refl w.heap.size w)
 have H : (if (l0.length : Int) = (l1.length : Int) then (laws_eqRouteS.l0 k l0 l1 0) else (some false)) = some r := h
 clear h
 by_cases c3 : (l0.length : Int) = (l1.length : Int)
 rotate_left
 ·rw [if_neg c3] at H
  have c3b0 : ((l0.length : Int) == (l1.length : Int)) = false := beq_eq_false_iff_ne.mpr c3
  have c3b1 : ((l0.length : Int) != (l1.length : Int)) = true := bne_iff_ne.mpr c3
  have c3b2 : (l0.length == l1.length) = false := by first | simpa using c3 | (simp at c3 ⊢; omega)
  obtain rfl := Option.some.inj H
  go_enter Try.func116, Try.ntmps116
  go_wp2
  go_ret
  exact ⟨by first | rfl | (simp [errW_none, errW_some] <;> rfl) | (simp [*, errW_none, errW_some] <;> rfl), by repeat (first | (with_reducible first | exact HB.out | apply na_ | apply nn_ | apply nw_) | exact HB.out)⟩
 rw [if_pos c3] at H
 have c3b0 : ((l0.length : Int) == (l1.length : Int)) = true := beq_iff_eq.mpr c3
 have c3b1 : ((l0.length : Int) != (l1.length : Int)) = false := bne_eq_false_iff_eq.mpr c3
 have c3b2 : (l0.length == l1.length) = true := by first | simpa using c3 | (simp at c3 ⊢; omega)
 clear c3
 have H' := mk_ H
 clear H
 go_enter Try.func116, Try.ntmps116
 go_wp2
 go_loopg [5] k (fun kq v5 w' => ∃ (x5_1 : Int), v5 = .int .i64 x5_1 ∧ Aside0 (laws_eqRouteS.l0 kq l0 l1 x5_1 = some r) ∧ Aside0 (kq ≤ k) ∧ Aside0 (Below w.heap.size w w'))
 case atStart => exact ⟨(0), (by first | rfl | (simp; done) | (simp [*]; done)), H', ⟨Nat.le_refl _⟩, ⟨ub_ HB.out⟩⟩
 case round =>
  clear H'
  try clear c1
  try clear p2
  try clear c3
  try clear c3b0
  try clear c3b1
  try clear c3b2
  obtain ⟨x5_1, rfl, HA, HK1, HB⟩ := hrel
  cases gk with
  | zero => exact absurd HA.out (by simp [laws_eqRouteS.l0])
  | succ k1 =>
   have H := HA.out
   clear HA
   simp only [laws_eqRouteS.l0] at H
   by_cases c4 : x5_1 < (l0.length : Int)
   rotate_left
   ·rw [if_neg c4] at H
    have c4b0 : decide (x5_1 < (l0.length : Int)) = false := decide_eq_false c4
    clear c4
    obtain rfl := Option.some.inj H
    go_wp2
    go_ret
    exact ⟨by first | rfl | (simp [errW_none, errW_some] <;> rfl) | (simp [*, errW_none, errW_some] <;> rfl), by repeat (first | (with_reducible first | exact HB.out | apply na_ | apply nn_ | apply nw_) | exact HB.out)⟩
   rw [if_pos c4] at H
   have c4b0 : decide (x5_1 < (l0.length : Int)) = true := decide_eq_true c4
   clear c4
   by_cases c5 : 0 ≤ x5_1
   rotate_left
   ·rw [if_neg c5] at H
    exact absurd H (by simp)
   rw [if_pos c5] at H
   have c5b0 : decide (0 ≤ x5_1) = true := decide_eq_true c5
   clear c5
   by_cases c6 : x5_1 < (l1.length : Int)
   rotate_left
   ·rw [if_neg c6] at H
    exact absurd H (by simp)
   rw [if_pos c6] at H
   have c6b0 : decide (x5_1 < (l1.length : Int)) = true := decide_eq_true c6
   clear c6
   replace H := Option.bind_eq_some_iff.mp H
   obtain ⟨t222, A70, H⟩ := H
   replace H : (if t222 = true then (laws_eqRouteS.l0 k1 l0 l1 (wrap64 (x5_1 + 1))) else (some false)) = some r := H
   have A7 := mk_ A70
   clear A70
   by_cases c8 : t222 = true
   rotate_left
   ·replace c8 := Bool.eq_false_iff.mpr c8
    subst c8
    have H1 : (some false) = some r := by rw [if_neg (show ¬ (false = true) by decide)] at H; exact H
    clear H
    have H := H1
    clear H1
    obtain rfl := Option.some.inj H
    try go_wp2
    have n0_ := mk_ (below_drew1 HB.out)
    clear HB
    have HB := n0_
    clear n0_
    have p220 : 0 ≤ (x5_1 : Int) := of_decide_eq_true (by first | (with_reducible assumption) | assumption)
    have q220 : x5_1 < (l0.length : Int) := of_decide_eq_true (by first | (with_reducible assumption) | assumption)
    obtain ⟨ad220, e220, hx220_0, hx220_1, hx220_2, hx220_3⟩ := at_T51 HR0.out x5_1 p220 q220
    have hw220_3 := hx220_3
    have hw220_2 := hx220_2
    have hw220_1 := hx220_1
    have hw220_0 := hx220_0
    cases e220
    replace hx220_0 := (HB.out.cell (lc_ w _ hx220_0)).trans hx220_0
    replace hx220_1 := (HB.out.cell (lc_ w _ hx220_1)).trans hx220_1
    replace hx220_2 := (HB.out.cell (lc_ w _ hx220_2)).trans hx220_2
    replace hx220_3 := (HB.out.cell (lc_ w _ hx220_3)).trans hx220_3
    replace p220 := eq_true p220
    replace q220 := eq_true q220
    have p221 : 0 ≤ (x5_1 : Int) := of_decide_eq_true (by first | (with_reducible assumption) | assumption)
    have q221 : x5_1 < (l1.length : Int) := of_decide_eq_true (by first | (with_reducible assumption) | assumption)
    obtain ⟨ad221, e221, hx221_0, hx221_1, hx221_2, hx221_3⟩ := at_T51 HR1.out x5_1 p221 q221
    have hw221_3 := hx221_3
    have hw221_2 := hx221_2
    have hw221_1 := hx221_1
    have hw221_0 := hx221_0
    cases e221
    replace hx221_0 := (HB.out.cell (lc_ w _ hx221_0)).trans hx221_0
    replace hx221_1 := (HB.out.cell (lc_ w _ hx221_1)).trans hx221_1
    replace hx221_2 := (HB.out.cell (lc_ w _ hx221_2)).trans hx221_2
    replace hx221_3 := (HB.out.cell (lc_ w _ hx221_3)).trans hx221_3
    replace p221 := eq_true p221
    replace q221 := eq_true q221
    refine start_ (n := 10) (S := fun w' => w'.cell? (ad220.add ((x5_1).toNat * 4)) = some (.int .i64 ((rd_T51 l0 x5_1).f0)) ∧ w'.cell? ⟨(ad220.add ((x5_1).toNat * 4)).block, (ad220.add ((x5_1).toNat * 4)).off + 1, none⟩ = some (.int .i64 ((rd_T51 l0 x5_1).f1)) ∧ w'.cell? ⟨(ad220.add ((x5_1).toNat * 4)).block, (ad220.add ((x5_1).toNat * 4)).off + 2, none⟩ = some (.int .i64 ((rd_T51 l0 x5_1).f2)) ∧ w'.cell? ⟨(ad220.add ((x5_1).toNat * 4)).block, (ad220.add ((x5_1).toNat * 4)).off + 3, none⟩ = some (.int .i64 ((rd_T51 l0 x5_1).f3)) ∧ w'.cell? (ad221.add ((x5_1).toNat * 4)) = some (.int .i64 ((rd_T51 l1 x5_1).f0)) ∧ w'.cell? ⟨(ad221.add ((x5_1).toNat * 4)).block, (ad221.add ((x5_1).toNat * 4)).off + 1, none⟩ = some (.int .i64 ((rd_T51 l1 x5_1).f1)) ∧ w'.cell? ⟨(ad221.add ((x5_1).toNat * 4)).block, (ad221.add ((x5_1).toNat * 4)).off + 2, none⟩ = some (.int .i64 ((rd_T51 l1 x5_1).f2)) ∧ w'.cell? ⟨(ad221.add ((x5_1).toNat * 4)).block, (ad221.add ((x5_1).toNat * 4)).off + 3, none⟩ = some (.int .i64 ((rd_T51 l1 x5_1).f3))) (ds := []) #[F_, F_, F_, F_, F_, F_, F_, F_, F_, F_] (by kernel_rfl) rfl rfl ⟨((HB.out.cell (lc_ w _ hw220_0)).trans hw220_0), ((HB.out.cell (lc_ w _ hw220_1)).trans hw220_1), ((HB.out.cell (lc_ w _ hw220_2)).trans hw220_2), ((HB.out.cell (lc_ w _ hw220_3)).trans hw220_3), ((HB.out.cell (lc_ w _ hw221_0)).trans hw221_0), ((HB.out.cell (lc_ w _ hw221_1)).trans hw221_1), ((HB.out.cell (lc_ w _ hw221_2)).trans hw221_2), ((HB.out.cell (lc_ w _ hw221_3)).trans hw221_3)⟩ (fun hHeld => ?_); refine with_tabW laws_eqRouteS.tab6 laws_eqRouteS.bits6 (fun HT_ HW_ => ?_)
    generalize wr.drew = w11 at HB hx220_0 hx220_1 hx220_2 hx220_3 hx221_0 hx221_1 hx221_2 hx221_3 hHeld ⊢
    refine pure_ (i := 0) (N := some 17) (v := ?_) (a' := ?_) #[T_, F_, F_, F_, F_, F_, F_, F_, F_, F_] rfl rfl (any_of HT_.out (by kernel_rfl)) (fun _ _ _ h => h) (Or.inl ⟨by rfl, ?_⟩) ?_ ?_
    rotate_left
    ·intro w'
     go_simp
     with_reducible rfl
    rotate_left
    ·simp only [Act.put, la_, lz_, ls_, i64_w, i32_w]
     rfl
    refine pure_ (i := 1) (N := some 18) (v := ?_) (a' := ?_) #[T_, T_, F_, F_, F_, F_, F_, F_, F_, F_] rfl rfl (any_of HT_.out (by kernel_rfl)) (fun _ _ _ h => h) (Or.inl ⟨by rfl, ?_⟩) ?_ ?_
    rotate_left
    ·intro w'
     go_simp
     with_reducible rfl
    rotate_left
    ·simp only [Act.put, la_, lz_, ls_, i64_w, i32_w]
     rfl
    refine pure_ (i := 2) (N := some 19) (v := ?_) (a' := ?_) #[T_, T_, T_, F_, F_, F_, F_, F_, F_, F_] rfl rfl (any_of HT_.out (by kernel_rfl)) (fun _ _ _ h => h) (Or.inl ⟨by rfl, ?_⟩) ?_ ?_
    rotate_left
    ·intro w'
     go_simp
     with_reducible rfl
    rotate_left
    ·simp only [Act.put, la_, lz_, ls_, i64_w, i32_w]
     rfl
    refine pure_ (i := 4) (N := some 21) (v := ?_) (a' := ?_) #[T_, T_, T_, F_, T_, F_, F_, F_, F_, F_] rfl rfl (any_of HT_.out (by kernel_rfl)) (fun _ _ _ h => h) (Or.inl ⟨by rfl, ?_⟩) ?_ ?_
    rotate_left
    ·intro w'
     go_simp
     with_reducible rfl
    rotate_left
    ·simp only [Act.put, la_, lz_, ls_, i64_w, i32_w]
     rfl
    refine pure_ (i := 5) (N := some 22) (v := ?_) (a' := ?_) #[T_, T_, T_, F_, T_, T_, F_, F_, F_, F_] rfl rfl (any_of HT_.out (by kernel_rfl)) (fun _ _ _ h => h) (Or.inl ⟨by rfl, ?_⟩) ?_ ?_
    rotate_left
    ·intro w'
     go_simp
     with_reducible rfl
    rotate_left
    ·simp only [Act.put, la_, lz_, ls_, i64_w, i32_w]
     rfl
    refine pure_ (i := 6) (N := some 23) (v := ?_) (a' := ?_) #[T_, T_, T_, F_, T_, T_, T_, F_, F_, F_] rfl rfl (any_of HT_.out (by kernel_rfl)) (fun _ _ _ h => h) (Or.inl ⟨by rfl, ?_⟩) ?_ ?_
    rotate_left
    ·intro w'
     go_simp
     with_reducible rfl
    rotate_left
    ·simp only [Act.put, la_, lz_, ls_, i64_w, i32_w]
     rfl
    refine take_ (i := 3) (N := some 20) (v := ?_) (a' := ?_) #[T_, T_, T_, T_, T_, T_, T_, F_, F_, F_] rfl rfl (take_ofW HT_.out HW_.out (by kernel_rfl)) (fun _ _ _ h => h) (Or.inl ⟨by rfl, ?_⟩) hHeld ?_ ?_
    rotate_left
    ·rintro w' ⟨s0, s1, s2, s3, s4, s5, s6, s7⟩
     go_simp
     with_reducible rfl
    rotate_left
    ·simp only [Act.put, la_, lz_, ls_, i64_w, i32_w]
     rfl
    refine take_ (i := 7) (N := some 24) (v := ?_) (a' := ?_) #[T_, T_, T_, T_, T_, T_, T_, T_, F_, F_] rfl rfl (take_ofW HT_.out HW_.out (by kernel_rfl)) (fun _ _ _ h => h) (Or.inl ⟨by rfl, ?_⟩) hHeld ?_ ?_
    rotate_left
    ·rintro w' ⟨s0, s1, s2, s3, s4, s5, s6, s7⟩
     go_simp
     with_reducible rfl
    rotate_left
    ·simp only [Act.put, la_, lz_, ls_, i64_w, i32_w]
     rfl
    refine one_ (i := 8) (N := some 25) #[T_, T_, T_, T_, T_, T_, T_, T_, T_, F_] rfl rfl (one_of HT_.out (by kernel_rfl)) (by decide) (fun K hK => ?_)
    refine goes_ Try.func150 (by kernel_rfl) rfl #[.agg #[.int .i64 ((rd_T51 l0 x5_1).f0), .int .i64 ((rd_T51 l0 x5_1).f1), .int .i64 ((rd_T51 l0 x5_1).f2), .int .i64 ((rd_T51 l0 x5_1).f3)], .agg #[.int .i64 ((rd_T51 l1 x5_1).f0), .int .i64 ((rd_T51 l1 x5_1).f1), .int .i64 ((rd_T51 l1 x5_1).f2), .int .i64 ((rd_T51 l1 x5_1).f3)]] (by rfl) rfl rfl (by (try simp only [lm_, lo_, ln_]); first | done | rfl | (simp only [List.length_drop, List.length_take]; rfl)) ?_
    with_reducible refine (laws_eqRoute.calls ((rd_T51 l0 x5_1).f0) ((rd_T51 l0 x5_1).f1) ((rd_T51 l0 x5_1).f2) ((rd_T51 l0 x5_1).f3) ((rd_T51 l1 x5_1).f0) ((rd_T51 l1 x5_1).f1) ((rd_T51 l1 x5_1).f2) ((rd_T51 l1 x5_1).f3) false _ A7.out).mono ?_
    rintro e w12 ⟨rfl, hb⟩
    refine ⟨_, rfl, ?_⟩
    have n0_ := mk_ (below_step (ub_ HB.out) hb)
    clear HB
    have HB := n0_
    clear n0_
    (try clear hb)
    (try clear hb2)
    (try clear hk)
    (try clear hi)
    refine hK.out _ _ ⟨((HB.out.cell (lc_ w _ hw220_0)).trans hw220_0), ((HB.out.cell (lc_ w _ hw220_1)).trans hw220_1), ((HB.out.cell (lc_ w _ hw220_2)).trans hw220_2), ((HB.out.cell (lc_ w _ hw220_3)).trans hw220_3), ((HB.out.cell (lc_ w _ hw221_0)).trans hw221_0), ((HB.out.cell (lc_ w _ hw221_1)).trans hw221_1), ((HB.out.cell (lc_ w _ hw221_2)).trans hw221_2), ((HB.out.cell (lc_ w _ hw221_3)).trans hw221_3)⟩ (fun hHeld => ?_)
    clear hK K
    refine norm_ (a' := ?_) ?_ ?_
    rotate_left
    ·show Act.put _ (some 25) _ = _
     simp only [Act.put, la_, lz_, ls_, i64_w, i32_w]
     rfl
    refine pure_ (i := 9) (N := some 26) (v := ?_) (a' := ?_) #[T_, T_, T_, T_, T_, T_, T_, T_, T_, T_] rfl rfl (any_of HT_.out (by kernel_rfl)) (fun _ _ _ h => h) (Or.inl ⟨by rfl, ?_⟩) ?_ ?_
    rotate_left
    ·intro w'
     go_simp
     with_reducible rfl
    rotate_left
    ·simp only [Act.put, la_, lz_, ls_, i64_w, i32_w]
     rfl
    refine done_ (done_of HT_.out (by kernel_rfl)) ?_
    try go_wp2
    go_ret
    exact ⟨by first | rfl | (simp [errW_none, errW_some] <;> rfl) | (simp [*, errW_none, errW_some] <;> rfl), by repeat (first | (with_reducible first | exact HB.out | apply na_ | apply nn_ | apply nw_) | exact HB.out)⟩
   subst c8
   have H1 : (laws_eqRouteS.l0 k1 l0 l1 (wrap64 (x5_1 + 1))) = some r := by rw [if_pos rfl] at H; exact H
   clear H
   have H := H1
   clear H1
   have H' := mk_ H
   clear H
   try go_wp2
   have n0_ := mk_ (below_drew1 HB.out)
   clear HB
   have HB := n0_
   clear n0_
   have p220 : 0 ≤ (x5_1 : Int) := of_decide_eq_true (by first | (with_reducible assumption) | assumption)
   have q220 : x5_1 < (l0.length : Int) := of_decide_eq_true (by first | (with_reducible assumption) | assumption)
   obtain ⟨ad220, e220, hx220_0, hx220_1, hx220_2, hx220_3⟩ := at_T51 HR0.out x5_1 p220 q220
   have hw220_3 := hx220_3
   have hw220_2 := hx220_2
   have hw220_1 := hx220_1
   have hw220_0 := hx220_0
   cases e220
   replace hx220_0 := (HB.out.cell (lc_ w _ hx220_0)).trans hx220_0
   replace hx220_1 := (HB.out.cell (lc_ w _ hx220_1)).trans hx220_1
   replace hx220_2 := (HB.out.cell (lc_ w _ hx220_2)).trans hx220_2
   replace hx220_3 := (HB.out.cell (lc_ w _ hx220_3)).trans hx220_3
   replace p220 := eq_true p220
   replace q220 := eq_true q220
   have p221 : 0 ≤ (x5_1 : Int) := of_decide_eq_true (by first | (with_reducible assumption) | assumption)
   have q221 : x5_1 < (l1.length : Int) := of_decide_eq_true (by first | (with_reducible assumption) | assumption)
   obtain ⟨ad221, e221, hx221_0, hx221_1, hx221_2, hx221_3⟩ := at_T51 HR1.out x5_1 p221 q221
   have hw221_3 := hx221_3
   have hw221_2 := hx221_2
   have hw221_1 := hx221_1
   have hw221_0 := hx221_0
   cases e221
   replace hx221_0 := (HB.out.cell (lc_ w _ hx221_0)).trans hx221_0
   replace hx221_1 := (HB.out.cell (lc_ w _ hx221_1)).trans hx221_1
   replace hx221_2 := (HB.out.cell (lc_ w _ hx221_2)).trans hx221_2
   replace hx221_3 := (HB.out.cell (lc_ w _ hx221_3)).trans hx221_3
   replace p221 := eq_true p221
   replace q221 := eq_true q221
   refine start_ (n := 10) (S := fun w' => w'.cell? (ad220.add ((x5_1).toNat * 4)) = some (.int .i64 ((rd_T51 l0 x5_1).f0)) ∧ w'.cell? ⟨(ad220.add ((x5_1).toNat * 4)).block, (ad220.add ((x5_1).toNat * 4)).off + 1, none⟩ = some (.int .i64 ((rd_T51 l0 x5_1).f1)) ∧ w'.cell? ⟨(ad220.add ((x5_1).toNat * 4)).block, (ad220.add ((x5_1).toNat * 4)).off + 2, none⟩ = some (.int .i64 ((rd_T51 l0 x5_1).f2)) ∧ w'.cell? ⟨(ad220.add ((x5_1).toNat * 4)).block, (ad220.add ((x5_1).toNat * 4)).off + 3, none⟩ = some (.int .i64 ((rd_T51 l0 x5_1).f3)) ∧ w'.cell? (ad221.add ((x5_1).toNat * 4)) = some (.int .i64 ((rd_T51 l1 x5_1).f0)) ∧ w'.cell? ⟨(ad221.add ((x5_1).toNat * 4)).block, (ad221.add ((x5_1).toNat * 4)).off + 1, none⟩ = some (.int .i64 ((rd_T51 l1 x5_1).f1)) ∧ w'.cell? ⟨(ad221.add ((x5_1).toNat * 4)).block, (ad221.add ((x5_1).toNat * 4)).off + 2, none⟩ = some (.int .i64 ((rd_T51 l1 x5_1).f2)) ∧ w'.cell? ⟨(ad221.add ((x5_1).toNat * 4)).block, (ad221.add ((x5_1).toNat * 4)).off + 3, none⟩ = some (.int .i64 ((rd_T51 l1 x5_1).f3))) (ds := []) #[F_, F_, F_, F_, F_, F_, F_, F_, F_, F_] (by kernel_rfl) rfl rfl ⟨((HB.out.cell (lc_ w _ hw220_0)).trans hw220_0), ((HB.out.cell (lc_ w _ hw220_1)).trans hw220_1), ((HB.out.cell (lc_ w _ hw220_2)).trans hw220_2), ((HB.out.cell (lc_ w _ hw220_3)).trans hw220_3), ((HB.out.cell (lc_ w _ hw221_0)).trans hw221_0), ((HB.out.cell (lc_ w _ hw221_1)).trans hw221_1), ((HB.out.cell (lc_ w _ hw221_2)).trans hw221_2), ((HB.out.cell (lc_ w _ hw221_3)).trans hw221_3)⟩ (fun hHeld => ?_); refine with_tabW laws_eqRouteS.tab6 laws_eqRouteS.bits6 (fun HT_ HW_ => ?_)
   generalize wr.drew = w9 at HB hx220_0 hx220_1 hx220_2 hx220_3 hx221_0 hx221_1 hx221_2 hx221_3 hHeld ⊢
   refine pure_ (i := 0) (N := some 17) (v := ?_) (a' := ?_) #[T_, F_, F_, F_, F_, F_, F_, F_, F_, F_] rfl rfl (any_of HT_.out (by kernel_rfl)) (fun _ _ _ h => h) (Or.inl ⟨by rfl, ?_⟩) ?_ ?_
   rotate_left
   ·intro w'
    go_simp
    with_reducible rfl
   rotate_left
   ·simp only [Act.put, la_, lz_, ls_, i64_w, i32_w]
    rfl
   refine pure_ (i := 1) (N := some 18) (v := ?_) (a' := ?_) #[T_, T_, F_, F_, F_, F_, F_, F_, F_, F_] rfl rfl (any_of HT_.out (by kernel_rfl)) (fun _ _ _ h => h) (Or.inl ⟨by rfl, ?_⟩) ?_ ?_
   rotate_left
   ·intro w'
    go_simp
    with_reducible rfl
   rotate_left
   ·simp only [Act.put, la_, lz_, ls_, i64_w, i32_w]
    rfl
   refine pure_ (i := 2) (N := some 19) (v := ?_) (a' := ?_) #[T_, T_, T_, F_, F_, F_, F_, F_, F_, F_] rfl rfl (any_of HT_.out (by kernel_rfl)) (fun _ _ _ h => h) (Or.inl ⟨by rfl, ?_⟩) ?_ ?_
   rotate_left
   ·intro w'
    go_simp
    with_reducible rfl
   rotate_left
   ·simp only [Act.put, la_, lz_, ls_, i64_w, i32_w]
    rfl
   refine pure_ (i := 4) (N := some 21) (v := ?_) (a' := ?_) #[T_, T_, T_, F_, T_, F_, F_, F_, F_, F_] rfl rfl (any_of HT_.out (by kernel_rfl)) (fun _ _ _ h => h) (Or.inl ⟨by rfl, ?_⟩) ?_ ?_
   rotate_left
   ·intro w'
    go_simp
    with_reducible rfl
   rotate_left
   ·simp only [Act.put, la_, lz_, ls_, i64_w, i32_w]
    rfl
   refine pure_ (i := 5) (N := some 22) (v := ?_) (a' := ?_) #[T_, T_, T_, F_, T_, T_, F_, F_, F_, F_] rfl rfl (any_of HT_.out (by kernel_rfl)) (fun _ _ _ h => h) (Or.inl ⟨by rfl, ?_⟩) ?_ ?_
   rotate_left
   ·intro w'
    go_simp
    with_reducible rfl
   rotate_left
   ·simp only [Act.put, la_, lz_, ls_, i64_w, i32_w]
    rfl
   refine pure_ (i := 6) (N := some 23) (v := ?_) (a' := ?_) #[T_, T_, T_, F_, T_, T_, T_, F_, F_, F_] rfl rfl (any_of HT_.out (by kernel_rfl)) (fun _ _ _ h => h) (Or.inl ⟨by rfl, ?_⟩) ?_ ?_
   rotate_left
   ·intro w'
    go_simp
    with_reducible rfl
   rotate_left
   ·simp only [Act.put, la_, lz_, ls_, i64_w, i32_w]
    rfl
   refine take_ (i := 3) (N := some 20) (v := ?_) (a' := ?_) #[T_, T_, T_, T_, T_, T_, T_, F_, F_, F_] rfl rfl (take_ofW HT_.out HW_.out (by kernel_rfl)) (fun _ _ _ h => h) (Or.inl ⟨by rfl, ?_⟩) hHeld ?_ ?_
   rotate_left
   ·rintro w' ⟨s0, s1, s2, s3, s4, s5, s6, s7⟩
    go_simp
    with_reducible rfl
   rotate_left
   ·simp only [Act.put, la_, lz_, ls_, i64_w, i32_w]
    rfl
   refine take_ (i := 7) (N := some 24) (v := ?_) (a' := ?_) #[T_, T_, T_, T_, T_, T_, T_, T_, F_, F_] rfl rfl (take_ofW HT_.out HW_.out (by kernel_rfl)) (fun _ _ _ h => h) (Or.inl ⟨by rfl, ?_⟩) hHeld ?_ ?_
   rotate_left
   ·rintro w' ⟨s0, s1, s2, s3, s4, s5, s6, s7⟩
    go_simp
    with_reducible rfl
   rotate_left
   ·simp only [Act.put, la_, lz_, ls_, i64_w, i32_w]
    rfl
   refine one_ (i := 8) (N := some 25) #[T_, T_, T_, T_, T_, T_, T_, T_, T_, F_] rfl rfl (one_of HT_.out (by kernel_rfl)) (by decide) (fun K hK => ?_)
   refine goes_ Try.func150 (by kernel_rfl) rfl #[.agg #[.int .i64 ((rd_T51 l0 x5_1).f0), .int .i64 ((rd_T51 l0 x5_1).f1), .int .i64 ((rd_T51 l0 x5_1).f2), .int .i64 ((rd_T51 l0 x5_1).f3)], .agg #[.int .i64 ((rd_T51 l1 x5_1).f0), .int .i64 ((rd_T51 l1 x5_1).f1), .int .i64 ((rd_T51 l1 x5_1).f2), .int .i64 ((rd_T51 l1 x5_1).f3)]] (by rfl) rfl rfl (by (try simp only [lm_, lo_, ln_]); first | done | rfl | (simp only [List.length_drop, List.length_take]; rfl)) ?_
   with_reducible refine (laws_eqRoute.calls ((rd_T51 l0 x5_1).f0) ((rd_T51 l0 x5_1).f1) ((rd_T51 l0 x5_1).f2) ((rd_T51 l0 x5_1).f3) ((rd_T51 l1 x5_1).f0) ((rd_T51 l1 x5_1).f1) ((rd_T51 l1 x5_1).f2) ((rd_T51 l1 x5_1).f3) true _ A7.out).mono ?_
   rintro e w10 ⟨rfl, hb⟩
   refine ⟨_, rfl, ?_⟩
   have n0_ := mk_ (below_step (ub_ HB.out) hb)
   clear HB
   have HB := n0_
   clear n0_
   (try clear hb)
   (try clear hb2)
   (try clear hk)
   (try clear hi)
   refine hK.out _ _ ⟨((HB.out.cell (lc_ w _ hw220_0)).trans hw220_0), ((HB.out.cell (lc_ w _ hw220_1)).trans hw220_1), ((HB.out.cell (lc_ w _ hw220_2)).trans hw220_2), ((HB.out.cell (lc_ w _ hw220_3)).trans hw220_3), ((HB.out.cell (lc_ w _ hw221_0)).trans hw221_0), ((HB.out.cell (lc_ w _ hw221_1)).trans hw221_1), ((HB.out.cell (lc_ w _ hw221_2)).trans hw221_2), ((HB.out.cell (lc_ w _ hw221_3)).trans hw221_3)⟩ (fun hHeld => ?_)
   clear hK K
   refine norm_ (a' := ?_) ?_ ?_
   rotate_left
   ·show Act.put _ (some 25) _ = _
    simp only [Act.put, la_, lz_, ls_, i64_w, i32_w]
    rfl
   refine pure_ (i := 9) (N := some 26) (v := ?_) (a' := ?_) #[T_, T_, T_, T_, T_, T_, T_, T_, T_, T_] rfl rfl (any_of HT_.out (by kernel_rfl)) (fun _ _ _ h => h) (Or.inl ⟨by rfl, ?_⟩) ?_ ?_
   rotate_left
   ·intro w'
    go_simp
    with_reducible rfl
   rotate_left
   ·simp only [Act.put, la_, lz_, ls_, i64_w, i32_w]
    rfl
   refine done_ (done_of HT_.out (by kernel_rfl)) ?_
   try go_wp2
   go_roundg k1
   case measure => have := HK1.out; omega
   case rel => exact ⟨(wrap64 (x5_1 + 1)), (by first | rfl | (simp; done) | (simp [*]; done)), H', ⟨by have := HK1.out; omega⟩, ⟨ub_ HB.out⟩⟩

/-! ### laws_eqStation: function 68 -/
def laws_eqStation.f (k : Nat) (a0_0 : Int) (l0_1 : List (S51)) (a1_0 : Int) (l1_1 : List (S51)) : Option (Bool) := if a0_0 = a1_0 then ((laws_eqRouteS.f k l0_1 l1_1).bind fun t225 => (if t225 = true then (some true) else (some false))) else (some false)
theorem laws_eqStation.mono : ∀ a0 a1 a2 a3 k, LeO (laws_eqStation.f k a0 a1 a2 a3) (laws_eqStation.f (k + 1) a0 a1 a2 a3) := by
 intro a0 a1 a2 a3 k
 unfold laws_eqStation.f
 repeat' first
   | (with_reducible exact laws_eqRouteS.mono _ _ _)
   | (with_reducible exact LeO.refl _)
   | (with_reducible exact LeO.none _)
   | (with_reducible refine LeO.ite ?_ ?_)
   | (with_reducible refine LeO.bind ?_ (fun _ => ?_))
   | exact laws_eqRouteS.mono _ _ _
   | exact LeO.none _
   | refine LeO.ite ?_ ?_
   | refine LeO.bind ?_ (fun _ => ?_)
set_option maxHeartbeats 8000000 in
set_option maxRecDepth 100000 in
theorem laws_eqStation.calls (k : Nat) (a0_0 : Int) (A0_1 : Option Addr) (c0_1 : Nat) (l0_1 : List (S51)) (a1_0 : Int) (A1_1 : Option Addr) (c1_1 : Nat) (l1_1 : List (S51)) (r : Bool) (w : World) (hr0_1 : Kd.C k51 w A0_1 l0_1.length l0_1) (hc0_1 : l0_1.length ≤ c0_1) (hr1_1 : Kd.C k51 w A1_1 l1_1.length l1_1) (hc1_1 : l1_1.length ≤ c1_1) (h : laws_eqStation.f k a0_0 l0_1 a1_0 l1_1 = some r) :
  Calls Try.prog 68 #[.agg #[.int .i64 a0_0, .slice A0_1 l0_1.length c0_1], .agg #[.int .i64 a1_0, .slice A1_1 l1_1.length c1_1]] w fun e w' => e = .returned (.bool r) ∧ Below w.heap.size w w' := by
 have hu56 := Try.underlying56
 have HR0_1 := mk_ hr0_1
 have HC0_1 := mk_ hc0_1
 clear hr0_1 hc0_1
 have HR1_1 := mk_ hr1_1
 have HC1_1 := mk_ hc1_1
 clear hr1_1 hc1_1
 have HB := mk_ (Below.refl w.heap.size w)
 have H : (if a0_0 = a1_0 then ((laws_eqRouteS.f k l0_1 l1_1).bind fun t225 => (if t225 = true then (some true) else (some false))) else (some false)) = some r := h
 clear h
 by_cases c3 : a0_0 = a1_0
 rotate_left
 ·rw [if_neg c3] at H
  have c3b0 : (a0_0 == a1_0) = false := beq_eq_false_iff_ne.mpr c3
  have c3b1 : (a0_0 != a1_0) = true := bne_iff_ne.mpr c3
  obtain rfl := Option.some.inj H
  go_enter Try.func68, Try.ntmps68
  go_wp2_with (first | ((with_reducible refine gate_dst (N := 2) rfl ?_); refine box_event ?hg (N := 2) ?hd (cs := #[.int .i64 a0_0, .slice A0_1 l0_1.length c0_1]) (t := 56) ?hr ?_; (case hd => rfl); (case hg => rfl); (case hr => first | (go_simp; done) | (go_simp; rfl)); intro gb223 hg w18 hbox hb; have n0_ := mk_ (below_step (ub_ HB.out) hb); have n1_ := mk_ (hbox); have n2_ := mk_ ((by rw [hg]; exact (below_size (ub_ HB.out)) : w.heap.size ≤ gb223)); have n3_ := mk_ ((by rw [hg]; exact (below_size (ub_ HB.out)) : w.heap.size ≤ gb223)); clear HB; have HB := n0_; have BK223 := n1_; have GW223 := n2_; have GE223 := ge_ n3_.out; clear n0_ n1_ n2_ n3_; clear hb hbox hg) | ((with_reducible refine gate_dst (N := 3) rfl ?_); refine box_event ?hg (N := 3) ?hd (cs := #[.int .i64 a1_0, .slice A1_1 l1_1.length c1_1]) (t := 56) ?hr ?_; (case hd => rfl); (case hg => rfl); (case hr => first | (go_simp; done) | (go_simp; rfl)); intro gb224 hg w19 hbox hb; have n0_ := mk_ (blk_below (u_ BK223.out) hb); have n1_ := mk_ (below_step (us_ HB.out) hb); have n2_ := mk_ (hbox); have n3_ := mk_ ((by rw [hg]; exact (below_size (us_ HB.out)) : w.heap.size ≤ gb224)); have n4_ := mk_ ((by rw [hg]; exact (below_size (us_ HB.out)) : w.heap.size ≤ gb224)); have n5_ := mk_ ((by rw [hg]; exact Nat.ne_of_lt (blk_lt (u_ BK223.out)) : gb223 ≠ gb224)); have n6_ := mk_ ((by rw [hg]; exact Nat.ne_of_gt (blk_lt (u_ BK223.out)) : gb224 ≠ gb223)); clear BK223; clear HB; have BK223 := n0_; have HB := n1_; have BK224 := n2_; have GW224 := n3_; have GE224 := ge_ n4_.out; have NB223_224 := nq_ n5_.out; have NB224_223 := nq_ n6_.out; clear n0_ n1_ n2_ n3_ n4_ n5_ n6_; clear hb hbox hg; have hnb20 := NB223_224.out; have hnc20 := NB224_223.out; obtain ⟨hcz21_0, hcz21_1, hfz21_0, hfz21_1⟩ := cells2_ BK223.out; obtain ⟨hcz22_0, hcz22_1, hfz22_0, hfz22_1⟩ := cells2_ BK224.out))
  go_ret
  exact ⟨by first | rfl | (simp [errW_none, errW_some] <;> rfl) | (simp [*, errW_none, errW_some] <;> rfl), us_ HB.out⟩
 rw [if_pos c3] at H
 have c3b0 : (a0_0 == a1_0) = true := beq_iff_eq.mpr c3
 have c3b1 : (a0_0 != a1_0) = false := bne_eq_false_iff_eq.mpr c3
 clear c3
 replace H := Option.bind_eq_some_iff.mp H
 obtain ⟨t225, A40, H⟩ := H
 replace H : (if t225 = true then (some true) else (some false)) = some r := H
 have A4 := mk_ A40
 clear A40
 by_cases c5 : t225 = true
 ·subst c5
  have H1 : (some true) = some r := by rw [if_pos rfl] at H; exact H
  clear H
  have H := H1
  clear H1
  obtain rfl := Option.some.inj H
  go_enter Try.func68, Try.ntmps68
  go_wp2_with (first | ((with_reducible refine gate_dst (N := 2) rfl ?_); refine box_event ?hg (N := 2) ?hd (cs := #[.int .i64 a0_0, .slice A0_1 l0_1.length c0_1]) (t := 56) ?hr ?_; (case hd => rfl); (case hg => rfl); (case hr => first | (go_simp; done) | (go_simp; rfl)); intro gb223 hg w6 hbox hb; have n0_ := mk_ (below_step (ub_ HB.out) hb); have n1_ := mk_ (hbox); have n2_ := mk_ ((by rw [hg]; exact (below_size (ub_ HB.out)) : w.heap.size ≤ gb223)); have n3_ := mk_ ((by rw [hg]; exact (below_size (ub_ HB.out)) : w.heap.size ≤ gb223)); clear HB; have HB := n0_; have BK223 := n1_; have GW223 := n2_; have GE223 := ge_ n3_.out; clear n0_ n1_ n2_ n3_; clear hb hbox hg) | ((with_reducible refine gate_dst (N := 3) rfl ?_); refine box_event ?hg (N := 3) ?hd (cs := #[.int .i64 a1_0, .slice A1_1 l1_1.length c1_1]) (t := 56) ?hr ?_; (case hd => rfl); (case hg => rfl); (case hr => first | (go_simp; done) | (go_simp; rfl)); intro gb224 hg w7 hbox hb; have n0_ := mk_ (blk_below (u_ BK223.out) hb); have n1_ := mk_ (below_step (us_ HB.out) hb); have n2_ := mk_ (hbox); have n3_ := mk_ ((by rw [hg]; exact (below_size (us_ HB.out)) : w.heap.size ≤ gb224)); have n4_ := mk_ ((by rw [hg]; exact (below_size (us_ HB.out)) : w.heap.size ≤ gb224)); have n5_ := mk_ ((by rw [hg]; exact Nat.ne_of_lt (blk_lt (u_ BK223.out)) : gb223 ≠ gb224)); have n6_ := mk_ ((by rw [hg]; exact Nat.ne_of_gt (blk_lt (u_ BK223.out)) : gb224 ≠ gb223)); clear BK223; clear HB; have BK223 := n0_; have HB := n1_; have BK224 := n2_; have GW224 := n3_; have GE224 := ge_ n4_.out; have NB223_224 := nq_ n5_.out; have NB224_223 := nq_ n6_.out; clear n0_ n1_ n2_ n3_ n4_ n5_ n6_; clear hb hbox hg; have hnb8 := NB223_224.out; have hnc8 := NB224_223.out; obtain ⟨hcz9_0, hcz9_1, hfz9_0, hfz9_1⟩ := cells2_ BK223.out; obtain ⟨hcz10_0, hcz10_1, hfz10_0, hfz10_1⟩ := cells2_ BK224.out) | ((with_reducible refine gate_callee (f := 116) rfl ?_); refine goesL_ (some 14) rfl rfl Try.func116 (by kernel_rfl) rfl #[.slice A0_1 l0_1.length c0_1, .slice A1_1 l1_1.length c1_1] rfl (by (try simp only [lm_, lo_, ln_]); first | done | rfl | (simp only [List.length_drop, List.length_take]; rfl)) ?_; (with_reducible refine (laws_eqRouteS.calls k _ _ l0_1 _ _ l1_1 true _ ?side1 ?side2 ?side3 ?side4 A4.out).mono ?_); (case side1 => repeat (first | exact (Kd.C_below HR0_1.out HB.out) | (with_reducible refine Kd.C_alloc ?_ _) | (with_reducible refine Kd.C_drewN ?_ _) | (with_reducible refine Kd.C_drew ?_))); (case side2 => exact HC0_1.out); (case side3 => repeat (first | exact (Kd.C_below HR1_1.out HB.out) | (with_reducible refine Kd.C_alloc ?_ _) | (with_reducible refine Kd.C_drewN ?_ _) | (with_reducible refine Kd.C_drew ?_))); (case side4 => exact HC1_1.out); rintro e w11 ⟨rfl, hb⟩; refine ⟨_, rfl, ?_⟩; have n0_ := mk_ (blk_below (u_ BK223.out) hb); have n1_ := mk_ (blk_below (u_ BK224.out) hb); have n2_ := mk_ (below_step (us_ HB.out) hb); clear BK223; clear BK224; clear HB; have BK223 := n0_; have BK224 := n1_; have HB := n2_; clear n0_ n1_ n2_; (try clear hb); (try clear hb2); (try clear hk); (try clear hi)))
  go_ret
  exact ⟨by first | rfl | (simp [errW_none, errW_some] <;> rfl) | (simp [*, errW_none, errW_some] <;> rfl), us_ HB.out⟩
 replace c5 := Bool.eq_false_iff.mpr c5
 subst c5
 have H1 : (some false) = some r := by rw [if_neg (show ¬ (false = true) by decide)] at H; exact H
 clear H
 have H := H1
 clear H1
 obtain rfl := Option.some.inj H
 go_enter Try.func68, Try.ntmps68
 go_wp2_with (first | ((with_reducible refine gate_dst (N := 2) rfl ?_); refine box_event ?hg (N := 2) ?hd (cs := #[.int .i64 a0_0, .slice A0_1 l0_1.length c0_1]) (t := 56) ?hr ?_; (case hd => rfl); (case hg => rfl); (case hr => first | (go_simp; done) | (go_simp; rfl)); intro gb223 hg w12 hbox hb; have n0_ := mk_ (below_step (ub_ HB.out) hb); have n1_ := mk_ (hbox); have n2_ := mk_ ((by rw [hg]; exact (below_size (ub_ HB.out)) : w.heap.size ≤ gb223)); have n3_ := mk_ ((by rw [hg]; exact (below_size (ub_ HB.out)) : w.heap.size ≤ gb223)); clear HB; have HB := n0_; have BK223 := n1_; have GW223 := n2_; have GE223 := ge_ n3_.out; clear n0_ n1_ n2_ n3_; clear hb hbox hg) | ((with_reducible refine gate_dst (N := 3) rfl ?_); refine box_event ?hg (N := 3) ?hd (cs := #[.int .i64 a1_0, .slice A1_1 l1_1.length c1_1]) (t := 56) ?hr ?_; (case hd => rfl); (case hg => rfl); (case hr => first | (go_simp; done) | (go_simp; rfl)); intro gb224 hg w13 hbox hb; have n0_ := mk_ (blk_below (u_ BK223.out) hb); have n1_ := mk_ (below_step (us_ HB.out) hb); have n2_ := mk_ (hbox); have n3_ := mk_ ((by rw [hg]; exact (below_size (us_ HB.out)) : w.heap.size ≤ gb224)); have n4_ := mk_ ((by rw [hg]; exact (below_size (us_ HB.out)) : w.heap.size ≤ gb224)); have n5_ := mk_ ((by rw [hg]; exact Nat.ne_of_lt (blk_lt (u_ BK223.out)) : gb223 ≠ gb224)); have n6_ := mk_ ((by rw [hg]; exact Nat.ne_of_gt (blk_lt (u_ BK223.out)) : gb224 ≠ gb223)); clear BK223; clear HB; have BK223 := n0_; have HB := n1_; have BK224 := n2_; have GW224 := n3_; have GE224 := ge_ n4_.out; have NB223_224 := nq_ n5_.out; have NB224_223 := nq_ n6_.out; clear n0_ n1_ n2_ n3_ n4_ n5_ n6_; clear hb hbox hg; have hnb14 := NB223_224.out; have hnc14 := NB224_223.out; obtain ⟨hcz15_0, hcz15_1, hfz15_0, hfz15_1⟩ := cells2_ BK223.out; obtain ⟨hcz16_0, hcz16_1, hfz16_0, hfz16_1⟩ := cells2_ BK224.out) | ((with_reducible refine gate_callee (f := 116) rfl ?_); refine goesL_ (some 14) rfl rfl Try.func116 (by kernel_rfl) rfl #[.slice A0_1 l0_1.length c0_1, .slice A1_1 l1_1.length c1_1] rfl (by (try simp only [lm_, lo_, ln_]); first | done | rfl | (simp only [List.length_drop, List.length_take]; rfl)) ?_; (with_reducible refine (laws_eqRouteS.calls k _ _ l0_1 _ _ l1_1 false _ ?side1 ?side2 ?side3 ?side4 A4.out).mono ?_); (case side1 => repeat (first | exact (Kd.C_below HR0_1.out HB.out) | (with_reducible refine Kd.C_alloc ?_ _) | (with_reducible refine Kd.C_drewN ?_ _) | (with_reducible refine Kd.C_drew ?_))); (case side2 => exact HC0_1.out); (case side3 => repeat (first | exact (Kd.C_below HR1_1.out HB.out) | (with_reducible refine Kd.C_alloc ?_ _) | (with_reducible refine Kd.C_drewN ?_ _) | (with_reducible refine Kd.C_drew ?_))); (case side4 => exact HC1_1.out); rintro e w17 ⟨rfl, hb⟩; refine ⟨_, rfl, ?_⟩; have n0_ := mk_ (blk_below (u_ BK223.out) hb); have n1_ := mk_ (blk_below (u_ BK224.out) hb); have n2_ := mk_ (below_step (us_ HB.out) hb); clear BK223; clear BK224; clear HB; have BK223 := n0_; have BK224 := n1_; have HB := n2_; clear n0_ n1_ n2_; (try clear hb); (try clear hb2); (try clear hk); (try clear hi)))
 go_ret
 exact ⟨by first | rfl | (simp [errW_none, errW_some] <;> rfl) | (simp [*, errW_none, errW_some] <;> rfl), us_ HB.out⟩

end Go.Proofs.Ytdclgfdkomoedaa.MFnExactPathRoom
