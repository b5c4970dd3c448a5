/- Functions that the law FnEarRanges reaches, each with the proof that the machine's call comes to just its answer; no conditions but those that each theorem states. Printed by a program of this session over the kit's print. -/
import Derived.Test.YtkkibccnpkbbjabMFnEarRangesx0
import Derived.Test.YtkkibccnpkbbjabMFnEarRangesx4
namespace Go.Proofs.Ytkkibccnpkbbjab.MFnEarRanges
open Go.RowKit Go.Proofs.YtkkibccnpkbbjabV.PrintWords Go.Proofs.YtkkibccnpkbbjabV.PrintLast Go.Proofs.YtkkibccnpkbbjabV.PrintMore
attribute [local go_sem] max2_int min2_int max_two min_two max_three min_three max_four min_four   -- for this text's walks alone
set_option linter.unusedVariables false
set_option linter.unusedSimpArgs false

/-! ### spec_EarFree: function 130 -/
def spec_EarFree.f (k : Nat) (a0_0 : Int) (a0_1 : Int) (l0_2 : List Int) (l0_3 : List (S68)) : Option (Int) := (spec_EarOk.f k a0_0 a0_1 l0_2 l0_3).bind fun t142 => (if t142 = true then (some (wrap64 (a0_1 - (l0_2.length : Int)))) else (some 0))
theorem spec_EarFree.mono : ∀ a0 a1 a2 a3 k, LeO (spec_EarFree.f k a0 a1 a2 a3) (spec_EarFree.f (k + 1) a0 a1 a2 a3) := by
 intro a0 a1 a2 a3 k
 unfold spec_EarFree.f
 repeat' first
   | (with_reducible exact spec_EarOk.mono _ _ _ _ _)
   | (with_reducible exact LeO.refl _)
   | (with_reducible exact LeO.none _)
   | (with_reducible refine LeO.ite ?_ ?_)
   | (with_reducible refine LeO.bind ?_ (fun _ => ?_))
   | exact spec_EarOk.mono _ _ _ _ _
   | exact LeO.none _
   | refine LeO.ite ?_ ?_
   | refine LeO.bind ?_ (fun _ => ?_)
set_option maxHeartbeats 8000000 in
set_option maxRecDepth 100000 in
theorem spec_EarFree.calls (k : Nat) (a0_0 : Int) (a0_1 : Int) (A0_2 : Option Addr) (c0_2 : Nat) (l0_2 : List Int) (A0_3 : Option Addr) (c0_3 : Nat) (l0_3 : List (S68)) (r : Int) (w : World) (hr0_2 : Kd.C (Kd.int .u8) w A0_2 l0_2.length l0_2) (hc0_2 : l0_2.length ≤ c0_2) (hr0_3 : Kd.C k68 w A0_3 l0_3.length l0_3) (hc0_3 : l0_3.length ≤ c0_3) (h : spec_EarFree.f k a0_0 a0_1 l0_2 l0_3 = some r) :
  Calls Try.prog 130 #[.agg #[.int .i64 a0_0, .int .i64 a0_1, .slice A0_2 l0_2.length c0_2, .slice A0_3 l0_3.length c0_3]] w fun e w' => e = .returned (.int .i64 r) ∧ Below w.heap.size w w' := by
 have hu59 := Try.underlying59
 have HR0_2 := mk_ hr0_2
 have HC0_2 := mk_ hc0_2
 clear hr0_2 hc0_2
 have HR0_3 := mk_ hr0_3
 have HC0_3 := mk_ hc0_3
 clear hr0_3 hc0_3
 have HB := mk_ (Below.refl w.heap.size w)
 have H := h
 unfold spec_EarFree.f at H
 clear h
 replace H := Option.bind_eq_some_iff.mp H
 obtain ⟨t142, A20, H⟩ := H
 replace H : (if t142 = true then (some (wrap64 (a0_1 - (l0_2.length : Int)))) else (some 0)) = some r := H
 have A2 := mk_ A20
 clear A20
 by_cases c3 : t142 = true
 focus
  subst c3
  have H1 : (some (wrap64 (a0_1 - (l0_2.length : Int)))) = some r := by rw [if_pos rfl] at H; exact H
  clear H
  have H := H1
  clear H1
  obtain rfl := Option.some.inj H
 rotate_left
 focus
  replace c3 := Bool.eq_false_iff.mpr c3
  subst c3
  have H1 : (some 0) = some r := by rw [if_neg (show ¬ (false = true) by decide)] at H; exact H
  clear H
  have H := H1
  clear H1
  obtain rfl := Option.some.inj H
 rotate_left
 all_goals
  go_enter Try.func130, Try.ntmps130
  go_wp2_with (first | ((with_reducible refine gate_dst (N := 1) rfl ?_); refine box_event ?hg (N := 1) ?hd (cs := #[.int .i64 a0_0, .int .i64 a0_1, .slice A0_2 l0_2.length c0_2, .slice A0_3 l0_3.length c0_3]) (t := 59) ?hr ?_; (case hd => rfl); (case hg => rfl); (case hr => first | (go_simp; done) | (go_simp; rfl)); intro gb1560 hg w1561 hbox hb; have n0_ := mk_ (below_step (ub_ HB.out) hb); have BK141 := mk_ (hbox); have GW141 := mk_ ((by rw [hg]; exact (below_size (ub_ HB.out)) : w.heap.size ≤ gb1560)); have GE141 := ge_ ((by rw [hg]; exact (below_size (ub_ HB.out)) : w.heap.size ≤ gb1560)); replace HB := n0_; clear n0_; clear hb hbox hg; obtain ⟨_, _, _, _, _, _, _, _⟩ := cells4_ BK141.out) | ((with_reducible refine gate_callee (f := 33) rfl ?_); refine goesL_ (some 4) rfl rfl Try.func33 (by kernel_rfl) rfl #[.agg #[.int .i64 a0_0, .int .i64 a0_1, .slice A0_2 l0_2.length c0_2, .slice A0_3 l0_3.length c0_3]] rfl (by (try simp only [lm_, lo_, ln_]); try rfl) ?_; (with_reducible refine (spec_EarOk.calls k a0_0 a0_1 _ _ l0_2 _ _ l0_3 true _ ?side1 ?side2 ?side3 ?side4 A2.out).mono ?_); (case side1 => repeat (first | exact (Kd.C_below HR0_2.out HB.out) | (with_reducible refine Kd.C_alloc ?_ _) | (with_reducible refine Kd.C_drewN ?_ _) | (with_reducible refine Kd.C_drew ?_))); (case side2 => exact HC0_2.out); (case side3 => repeat (first | exact (Kd.C_below HR0_3.out HB.out) | (with_reducible refine Kd.C_alloc ?_ _) | (with_reducible refine Kd.C_drewN ?_ _) | (with_reducible refine Kd.C_drew ?_))); (case side4 => exact HC0_3.out); rintro e w15880 ⟨rfl, hb⟩; refine ⟨_, rfl, ?_⟩; replace BK141 := mk_ (blk_below (u_ BK141.out) hb); replace HB := mk_ (below_step (us_ HB.out) hb); obtain ⟨_, _, _, _, _, _, _, _⟩ := cells4_ BK141.out) | ((with_reducible refine gate_callee (f := 33) rfl ?_); refine goesL_ (some 4) rfl rfl Try.func33 (by kernel_rfl) rfl #[.agg #[.int .i64 a0_0, .int .i64 a0_1, .slice A0_2 l0_2.length c0_2, .slice A0_3 l0_3.length c0_3]] rfl (by (try simp only [lm_, lo_, ln_]); try rfl) ?_; (with_reducible refine (spec_EarOk.calls k a0_0 a0_1 _ _ l0_2 _ _ l0_3 false _ ?side1 ?side2 ?side3 ?side4 A2.out).mono ?_); (case side1 => repeat (first | exact (Kd.C_below HR0_2.out HB.out) | (with_reducible refine Kd.C_alloc ?_ _) | (with_reducible refine Kd.C_drewN ?_ _) | (with_reducible refine Kd.C_drew ?_))); (case side2 => exact HC0_2.out); (case side3 => repeat (first | exact (Kd.C_below HR0_3.out HB.out) | (with_reducible refine Kd.C_alloc ?_ _) | (with_reducible refine Kd.C_drewN ?_ _) | (with_reducible refine Kd.C_drew ?_))); (case side4 => exact HC0_3.out); rintro e w15880 ⟨rfl, hb⟩; refine ⟨_, rfl, ?_⟩; replace BK141 := mk_ (blk_below (u_ BK141.out) hb); replace HB := mk_ (below_step (us_ HB.out) hb)))
  go_ret
  exact ⟨by first | rfl | (simp [errW_none, errW_some] <;> rfl) | (simp [*, errW_none, errW_some] <;> rfl), us_ HB.out⟩

/-! ### spec_l12Put: function 131 -/
mutual
def spec_l12Put.l0 : Nat → List (S68) → List (S68) → Bool → Int → Int → Int → Option ((List (S68)))
 | 0, _, _, _, _, _, _ => none
 | k + 1, x0, x5, x6, x7, x144000, x144001 => if x7 < (x0.length : Int) then (if x6 = true then (spec_l12Put.j1 k x0 x5 x6 x7 false x144000 x144001) else (if 0 ≤ x7 then (spec_l12Put.j1 k x0 x5 x6 x7 (decide (x144000 < ((rd_T68 x0 x7).f0))) x144000 x144001) else (none))) else (if x6 = true then (some x5) else (if x5.length < 8796093022208 then (some (x5 ++ [(⟨x144000, x144001⟩ : S68)])) else (none)))
def spec_l12Put.j1 : Nat → List (S68) → List (S68) → Bool → Int → Bool → Int → Int → Option ((List (S68)))
 | 0, _, _, _, _, _, _, _ => none
 | k + 1, x0, x5, x6, x7, x26, x144000, x144001 => if x26 = true then (if x5.length < 8796093022208 then ((some (x5 ++ [(⟨x144000, x144001⟩ : S68)] : List (S68))).bind fun y151 => (if 0 ≤ x7 then (if x7 < (x0.length : Int) then (if x144000 = ((rd_T68 x0 x7).f0) then (if y151.length < 8796093022208 then (spec_l12Put.l0 k x0 (y151 ++ [(⟨(rd_T68 x0 x7).f0, (rd_T68 x0 x7).f1⟩ : S68)]) true (wrap64 (x7 + 1)) x144000 x144001) else (none)) else (if y151.length < 8796093022208 then (spec_l12Put.l0 k x0 (y151 ++ [(⟨(rd_T68 x0 x7).f0, (rd_T68 x0 x7).f1⟩ : S68)]) true (wrap64 (x7 + 1)) x144000 x144001) else (none))) else (none)) else (none))) else (none)) else (if 0 ≤ x7 then (if x7 < (x0.length : Int) then (if x144000 = ((rd_T68 x0 x7).f0) then (if x5.length < 8796093022208 then (spec_l12Put.l0 k x0 (x5 ++ [(⟨(rd_T68 x0 x7).f0, (rd_T68 x0 x7).f1⟩ : S68)]) true (wrap64 (x7 + 1)) x144000 x144001) else (none)) else (if x5.length < 8796093022208 then (spec_l12Put.l0 k x0 (x5 ++ [(⟨(rd_T68 x0 x7).f0, (rd_T68 x0 x7).f1⟩ : S68)]) x6 (wrap64 (x7 + 1)) x144000 x144001) else (none))) else (none)) else (none))
end
def spec_l12Put.f (k : Nat) (l0 : List (S68)) (a1_0 : Int) (a1_1 : Int) : Option ((List (S68))) := spec_l12Put.l0 k l0 (([] : List (S68))) false 0 a1_0 a1_1
theorem spec_l12Put.mono_l : ∀ k, (∀ y0 y1 y2 y3 y4 y5, LeO (spec_l12Put.l0 k y0 y1 y2 y3 y4 y5) (spec_l12Put.l0 (k + 1) y0 y1 y2 y3 y4 y5)) ∧ (∀ y0 y1 y2 y3 y4 y5 y6, LeO (spec_l12Put.j1 k y0 y1 y2 y3 y4 y5 y6) (spec_l12Put.j1 (k + 1) y0 y1 y2 y3 y4 y5 y6))
 | 0 => ⟨fun _ _ _ _ _ _ r h => by simp [spec_l12Put.l0] at h, fun _ _ _ _ _ _ _ r h => by simp [spec_l12Put.j1] at h⟩
 | k + 1 => by
  obtain ⟨ih0, ih1⟩ := spec_l12Put.mono_l k
  refine ⟨?_, ?_⟩
  ·intro y0 y1 y2 y3 y4 y5
   unfold spec_l12Put.l0
   repeat' first
   | (with_reducible exact ih0 _ _ _ _ _ _)
   | (with_reducible exact ih1 _ _ _ _ _ _ _)
   | (with_reducible exact LeO.refl _)
   | (with_reducible exact LeO.none _)
   | (with_reducible refine LeO.ite ?_ ?_)
   | (with_reducible refine LeO.bind ?_ (fun _ => ?_))
   | exact ih0 _ _ _ _ _ _
   | exact ih1 _ _ _ _ _ _ _
   | exact LeO.none _
   | refine LeO.ite ?_ ?_
   | refine LeO.bind ?_ (fun _ => ?_)
  ·intro y0 y1 y2 y3 y4 y5 y6
   unfold spec_l12Put.j1
   repeat' first
   | (with_reducible exact ih0 _ _ _ _ _ _)
   | (with_reducible exact ih1 _ _ _ _ _ _ _)
   | (with_reducible exact LeO.refl _)
   | (with_reducible exact LeO.none _)
   | (with_reducible refine LeO.ite ?_ ?_)
   | (with_reducible refine LeO.bind ?_ (fun _ => ?_))
   | exact ih0 _ _ _ _ _ _
   | exact ih1 _ _ _ _ _ _ _
   | exact LeO.none _
   | refine LeO.ite ?_ ?_
   | refine LeO.bind ?_ (fun _ => ?_)
theorem spec_l12Put.mono : ∀ a0 a1 a2 k, LeO (spec_l12Put.f k a0 a1 a2) (spec_l12Put.f (k + 1) a0 a1 a2) := by
 intro a0 a1 a2 k
 obtain ⟨ih0, ih1⟩ := spec_l12Put.mono_l k
 unfold spec_l12Put.f
 repeat' first
   | (with_reducible exact ih0 _ _ _ _ _ _)
   | (with_reducible exact ih1 _ _ _ _ _ _ _)
   | (with_reducible exact LeO.refl _)
   | (with_reducible exact LeO.none _)
   | (with_reducible refine LeO.ite ?_ ?_)
   | (with_reducible refine LeO.bind ?_ (fun _ => ?_))
   | exact ih0 _ _ _ _ _ _
   | exact ih1 _ _ _ _ _ _ _
   | exact LeO.none _
   | refine LeO.ite ?_ ?_
   | refine LeO.bind ?_ (fun _ => ?_)
set_option maxHeartbeats 8000000 in
set_option maxRecDepth 100000 in
theorem spec_l12Put.calls (k : Nat) (A0 : Option Addr) (c0 : Nat) (l0 : List (S68)) (a1_0 : Int) (a1_1 : Int) (r : List (S68)) (w : World) (hr0 : Kd.C k68 w A0 l0.length l0) (hc0 : l0.length ≤ c0) (h : spec_l12Put.f k l0 a1_0 a1_1 = some r) :
  Calls Try.prog 131 #[.slice A0 l0.length c0, .agg #[.int .i64 a1_0, .int .u8 a1_1]] w fun e w' => ∃ v0_ : Value, e = .returned (v0_) ∧ Kd.R k68 68 w' w.heap.size (fun _ => True) v0_ r ∧ Below w.heap.size w w' := by
 have hu68 := Try.underlying68
 have HR0 := mk_ hr0
 have HC0 := mk_ hc0
 clear hr0 hc0
 have HB := mk_ (Below.refl w.heap.size w)
 have H : (spec_l12Put.l0 k l0 (([] : List (S68))) false 0 a1_0 a1_1) = some r := h
 clear h
 obtain ⟨y144, hy144⟩ : ∃ y_ : List (S68), y_ = (([] : List (S68))) := ⟨_, rfl⟩
 replace H : (spec_l12Put.l0 k l0 y144 false 0 a1_0 a1_1) = some r := by first | (rw [hy144]; with_reducible exact H) | (have H2_ := (Option.bind_some _ _).symm.trans H; rw [hy144]; with_reducible exact H2_) | (have H2_ := (Option.bind_some _ _).symm.trans H; with_reducible exact H2_) | with_reducible exact H | (rw [hy144]; exact H) | exact H
 have Ny144 := mk_ hy144
 clear hy144
 have H' := mk_ H
 clear H
 go_enter Try.func131, Try.ntmps131
 go_wp2_with (first | ((with_reducible refine gate_dst (N := 3) rfl ?_); refine box_event ?hg (N := 3) ?hd (cs := #[.int .i64 a1_0, .int .u8 a1_1]) (t := 68) ?hr ?_; (case hd => rfl); (case hg => rfl); (case hr => first | (go_simp; done) | (go_simp; rfl)); intro gb143 hg w3 hbox hb; have n0_ := mk_ (below_step (ub_ HB.out) hb); have BK143 := mk_ (hbox); have GW143 := mk_ ((by rw [hg]; exact (below_size (ub_ HB.out)) : w.heap.size ≤ gb143)); have GE143 := ge_ ((by rw [hg]; exact (below_size (ub_ HB.out)) : w.heap.size ≤ gb143)); replace HB := n0_; clear n0_; clear hb hbox hg) | ((with_reducible refine gate_dst (N := 8) rfl ?_); refine Kd.R_lit k68 _ 68 ?hg (N := 8) ?hd (xs := ([] : List (S68))) (inner := []) (ok := fun _ => True) (okp := fun _ => True) ?hr ?hp (fun _ hk => hk) trivial (Below.refl _ _) (Nat.le_refl _) (by simp) ?_; (case hd => rfl); (case hg => rfl); (case hr => first | (go_simp; done) | (go_simp; rfl)); (case hp => exact (Reps.none _ _)); intro v145 w4 ho5 hb hg_ hnew_; clear hg_ hnew_; (first | rw [← Ny144.out] at ho5 | (simp only [Int.reduceToNat] at ho5; rw [← Ny144.out] at ho5)); have HO146 := mk_ (Kd.R_lower (Kd.R_newB ho5 (g := gb143) (o := .cells #[.int .i64 a1_0, .int .u8 a1_1] 68 (0, 0)) (u_ BK143.out)) (below_size (us_ HB.out))); replace BK143 := mk_ (blk_below (u_ BK143.out) hb); replace HB := mk_ (below_step (us_ HB.out) hb); clear hb ho5))
 repeat (go_quiet (first | ((with_reducible refine gate_dst (N := 3) rfl ?_); refine box_event ?hg (N := 3) ?hd (cs := #[.int .i64 a1_0, .int .u8 a1_1]) (t := 68) ?hr ?_; (case hd => rfl); (case hg => rfl); (case hr => first | (go_simp; done) | (go_simp; rfl)); intro gb143 hg w3 hbox hb; have n0_ := mk_ (below_step (ub_ HB.out) hb); have BK143 := mk_ (hbox); have GW143 := mk_ ((by rw [hg]; exact (below_size (ub_ HB.out)) : w.heap.size ≤ gb143)); have GE143 := ge_ ((by rw [hg]; exact (below_size (ub_ HB.out)) : w.heap.size ≤ gb143)); replace HB := n0_; clear n0_; clear hb hbox hg) | ((with_reducible refine gate_dst (N := 8) rfl ?_); refine Kd.R_lit k68 _ 68 ?hg (N := 8) ?hd (xs := ([] : List (S68))) (inner := []) (ok := fun _ => True) (okp := fun _ => True) ?hr ?hp (fun _ hk => hk) trivial (Below.refl _ _) (Nat.le_refl _) (by simp) ?_; (case hd => rfl); (case hg => rfl); (case hr => first | (go_simp; done) | (go_simp; rfl)); (case hp => exact (Reps.none _ _)); intro v145 w4 ho5 hb hg_ hnew_; clear hg_ hnew_; (first | rw [← Ny144.out] at ho5 | (simp only [Int.reduceToNat] at ho5; rw [← Ny144.out] at ho5)); have HO146 := mk_ (Kd.R_lower (Kd.R_newB ho5 (g := gb143) (o := .cells #[.int .i64 a1_0, .int .u8 a1_1] 68 (0, 0)) (u_ BK143.out)) (below_size (us_ HB.out))); replace BK143 := mk_ (blk_below (u_ BK143.out) hb); replace HB := mk_ (below_step (us_ HB.out) hb); clear hb ho5)); try go_wp2_with (first | ((with_reducible refine gate_dst (N := 3) rfl ?_); refine box_event ?hg (N := 3) ?hd (cs := #[.int .i64 a1_0, .int .u8 a1_1]) (t := 68) ?hr ?_; (case hd => rfl); (case hg => rfl); (case hr => first | (go_simp; done) | (go_simp; rfl)); intro gb143 hg w3 hbox hb; have n0_ := mk_ (below_step (ub_ HB.out) hb); have BK143 := mk_ (hbox); have GW143 := mk_ ((by rw [hg]; exact (below_size (ub_ HB.out)) : w.heap.size ≤ gb143)); have GE143 := ge_ ((by rw [hg]; exact (below_size (ub_ HB.out)) : w.heap.size ≤ gb143)); replace HB := n0_; clear n0_; clear hb hbox hg) | ((with_reducible refine gate_dst (N := 8) rfl ?_); refine Kd.R_lit k68 _ 68 ?hg (N := 8) ?hd (xs := ([] : List (S68))) (inner := []) (ok := fun _ => True) (okp := fun _ => True) ?hr ?hp (fun _ hk => hk) trivial (Below.refl _ _) (Nat.le_refl _) (by simp) ?_; (case hd => rfl); (case hg => rfl); (case hr => first | (go_simp; done) | (go_simp; rfl)); (case hp => exact (Reps.none _ _)); intro v145 w4 ho5 hb hg_ hnew_; clear hg_ hnew_; (first | rw [← Ny144.out] at ho5 | (simp only [Int.reduceToNat] at ho5; rw [← Ny144.out] at ho5)); have HO146 := mk_ (Kd.R_lower (Kd.R_newB ho5 (g := gb143) (o := .cells #[.int .i64 a1_0, .int .u8 a1_1] 68 (0, 0)) (u_ BK143.out)) (below_size (us_ HB.out))); replace BK143 := mk_ (blk_below (u_ BK143.out) hb); replace HB := mk_ (below_step (us_ HB.out) hb); clear hb ho5)))
 go_loopg [5, 6, 7] k (fun kq v5 v6 v7 w' => ∃ (x5_1 : List (S68)) (x6_1 : Bool) (x7_1 : Int), v6 = .bool x6_1 ∧ v7 = .int .i64 x7_1 ∧ Aside0 (spec_l12Put.l0 kq l0 x5_1 x6_1 x7_1 a1_0 a1_1 = some r) ∧ Aside0 (kq ≤ k) ∧ Aside0 (Kd.R k68 68 w' w.heap.size (fun k_ => k_ ≠ gb143) v5 x5_1) ∧ Aside0 (w'.heap[gb143]? = some (.cells #[.int .i64 a1_0, .int .u8 a1_1] 68 (0, 0))) ∧ Aside0 (Below w.heap.size w w'))
 case atStart => exact ⟨(y144), (false), (0), (by first | rfl | (simp; done) | (simp [*]; done)), (by first | rfl | (simp; done) | (simp [*]; done)), H', ⟨Nat.le_refl _⟩, ⟨by (with_reducible repeat (first | apply Kd.R_alloc | apply Kd.R_drewN | apply Kd.R_drew)); exact Kd.R_mono HO146.out (fun _ hk => hk.2)⟩, ⟨u_ BK143.out⟩, ⟨us_ HB.out⟩⟩
 case round =>
  clear H'
  try clear c1
  try clear p2
  obtain ⟨x5_1, x6_1, x7_1, rfl, rfl, HA, HK1, HO_5, BK143, HB⟩ := hrel
  cases gk with
  | zero => exact absurd HA.out (by simp [spec_l12Put.l0])
  | succ k1 =>
   have H := HA.out
   clear HA
   simp only [spec_l12Put.l0] at H
   by_cases c6 : x7_1 < (l0.length : Int)
   rotate_left
   ·rw [if_neg c6] at H
    have c6b0 : decide (x7_1 < (l0.length : Int)) = false := decide_eq_false c6
    clear c6
    by_cases c35 : x6_1 = true
    ·subst c35
     have H1 : (some x5_1) = some r := by rw [if_pos rfl] at H; exact H
     clear H
     have H := H1
     clear H1
     obtain rfl := Option.some.inj H
     go_wp2
     repeat (go_quiet (fail); try go_wp2)
     go_ret
     exact ⟨_, by first | rfl | (simp [errW_none, errW_some] <;> rfl) | (simp [*, errW_none, errW_some] <;> rfl), by (with_reducible repeat (first | apply Kd.R_alloc | apply Kd.R_drewN | apply Kd.R_drew)); exact Kd.R_mono HO_5.out (fun _ hk => trivial), us_ HB.out⟩
    replace c35 := Bool.eq_false_iff.mpr c35
    subst c35
    rw [if_neg (show ¬ (false = true) by decide)] at H
    by_cases c36 : x5_1.length < 8796093022208
    rotate_left
    ·rw [if_neg c36] at H
     exact absurd H (by simp)
    rw [if_pos c36] at H
    have LMc36 := mk_ c36
    clear c36
    obtain ⟨y147, hy147⟩ : ∃ y_ : List (S68), y_ = (x5_1 ++ [(⟨a1_0, a1_1⟩ : S68)]) := ⟨_, rfl⟩
    replace H : (some y147) = some r := by first | (rw [hy147]; with_reducible exact H) | (have H2_ := (Option.bind_some _ _).symm.trans H; rw [hy147]; with_reducible exact H2_) | (have H2_ := (Option.bind_some _ _).symm.trans H; with_reducible exact H2_) | with_reducible exact H | (rw [hy147]; exact H) | exact H
    have Ny147 := mk_ hy147
    clear hy147
    obtain rfl := Option.some.inj H
    obtain ⟨_, _, _, _⟩ := cells2_ BK143.out
    go_wp2_with (first | ((with_reducible refine gate_builtin (b := .append) (xs := #[.tmp 48, .tmp 50]) rfl ?_); at_builtin; refine Kd.R_append k68 (w0 := w) w.heap.size rfl (.tmp 48) (.tmp 50) 57 68 (.agg #[(.int .i64 0), (.int .u8 0)]) 16 rfl Try.underlying57 info68 rfl (by decide) (by omega) u5 x5_1 (⟨a1_0, a1_1⟩ : S68) [.int .i64 a1_0, .int .u8 a1_1] (fun k_ => k_ ≠ gb143) (fun _ => False) rfl rfl ?aP (fun _ hk => hk.elim) ?aF ?aO ?aB ?aS ?aL ?_; (case aP => exact k68_mkM _ _ _ (⟨a1_0, a1_1⟩ : S68)); (case aB => exact (us_ HB.out)); (case aF => exact (fun k_ hk => Kd.freshB (g := gb143) (o := .cells #[.int .i64 a1_0, .int .u8 a1_1] 68 (0, 0)) (u_ BK143.out) k_ hk)); (case aO => exact (Kd.ur_ HO_5.out)); (case aS => exact (below_size (us_ HB.out))); (case aL => have := LMc36.out; omega); intro v148 w38 ho hb hg hat; rw [← Ny147.out] at ho; replace BK143 := mk_ (blk_grown (g := gb143) (o := .cells #[.int .i64 a1_0, .int .u8 a1_1] 68 (0, 0)) (u_ BK143.out) hg (Kd.R_away HO_5.out (fun _ hk => hk))); replace HB := mk_ (hb); have HO149 := mk_ (ho); clear HO_5; clear ho hb hg hat))
    repeat (go_quiet (first | ((with_reducible refine gate_builtin (b := .append) (xs := #[.tmp 48, .tmp 50]) rfl ?_); at_builtin; refine Kd.R_append k68 (w0 := w) w.heap.size rfl (.tmp 48) (.tmp 50) 57 68 (.agg #[(.int .i64 0), (.int .u8 0)]) 16 rfl Try.underlying57 info68 rfl (by decide) (by omega) u5 x5_1 (⟨a1_0, a1_1⟩ : S68) [.int .i64 a1_0, .int .u8 a1_1] (fun k_ => k_ ≠ gb143) (fun _ => False) rfl rfl ?aP (fun _ hk => hk.elim) ?aF ?aO ?aB ?aS ?aL ?_; (case aP => exact k68_mkM _ _ _ (⟨a1_0, a1_1⟩ : S68)); (case aB => exact (us_ HB.out)); (case aF => exact (fun k_ hk => Kd.freshB (g := gb143) (o := .cells #[.int .i64 a1_0, .int .u8 a1_1] 68 (0, 0)) (u_ BK143.out) k_ hk)); (case aO => exact (Kd.ur_ HO_5.out)); (case aS => exact (below_size (us_ HB.out))); (case aL => have := LMc36.out; omega); intro v148 w38 ho hb hg hat; rw [← Ny147.out] at ho; replace BK143 := mk_ (blk_grown (g := gb143) (o := .cells #[.int .i64 a1_0, .int .u8 a1_1] 68 (0, 0)) (u_ BK143.out) hg (Kd.R_away HO_5.out (fun _ hk => hk))); replace HB := mk_ (hb); have HO149 := mk_ (ho); clear HO_5; clear ho hb hg hat)); try go_wp2_with (first | ((with_reducible refine gate_builtin (b := .append) (xs := #[.tmp 48, .tmp 50]) rfl ?_); at_builtin; refine Kd.R_append k68 (w0 := w) w.heap.size rfl (.tmp 48) (.tmp 50) 57 68 (.agg #[(.int .i64 0), (.int .u8 0)]) 16 rfl Try.underlying57 info68 rfl (by decide) (by omega) u5 x5_1 (⟨a1_0, a1_1⟩ : S68) [.int .i64 a1_0, .int .u8 a1_1] (fun k_ => k_ ≠ gb143) (fun _ => False) rfl rfl ?aP (fun _ hk => hk.elim) ?aF ?aO ?aB ?aS ?aL ?_; (case aP => exact k68_mkM _ _ _ (⟨a1_0, a1_1⟩ : S68)); (case aB => exact (us_ HB.out)); (case aF => exact (fun k_ hk => Kd.freshB (g := gb143) (o := .cells #[.int .i64 a1_0, .int .u8 a1_1] 68 (0, 0)) (u_ BK143.out) k_ hk)); (case aO => exact (Kd.ur_ HO_5.out)); (case aS => exact (below_size (us_ HB.out))); (case aL => have := LMc36.out; omega); intro v148 w38 ho hb hg hat; rw [← Ny147.out] at ho; replace BK143 := mk_ (blk_grown (g := gb143) (o := .cells #[.int .i64 a1_0, .int .u8 a1_1] 68 (0, 0)) (u_ BK143.out) hg (Kd.R_away HO_5.out (fun _ hk => hk))); replace HB := mk_ (hb); have HO149 := mk_ (ho); clear HO_5; clear ho hb hg hat)))
    go_ret
    exact ⟨_, by first | rfl | (simp [errW_none, errW_some] <;> rfl) | (simp [*, errW_none, errW_some] <;> rfl), by (with_reducible repeat (first | apply Kd.R_alloc | apply Kd.R_drewN | apply Kd.R_drew)); exact Kd.R_mono HO149.out (fun _ hk => trivial), us_ HB.out⟩
   rw [if_pos c6] at H
   have c6b0 : decide (x7_1 < (l0.length : Int)) = true := decide_eq_true c6
   clear c6
   have HC7 := mk_ H
   clear H
   go_upto_region 6 with (fail)
   repeat (go_quiet (fail); go_upto_region 6 with (fail))
   go_cut [26] (fun v26 wc => ∃ (kq : Nat) (x26_6 : Bool), v26 = .bool x26_6 ∧ Aside0 (spec_l12Put.j1 kq l0 x5_1 x6_1 x7_1 x26_6 a1_0 a1_1 = some r) ∧ Aside0 (kq ≤ k1) ∧ Aside0 (Kd.R k68 68 wc w.heap.size (fun k_ => k_ ≠ gb143) u5 x5_1) ∧ Aside0 (wc.heap[gb143]? = some (.cells #[.int .i64 a1_0, .int .u8 a1_1] 68 (0, 0))) ∧ Aside0 (Below w.heap.size w wc))
   case first =>
    have H := HC7.out
    clear HC7
    by_cases c8 : x6_1 = true
    ·subst c8
     rw [if_pos rfl] at H
     have H' := mk_ H
     clear H
     go_wp2
     repeat (go_quiet (fail); try go_wp2)
     go_meet
     case rel => exact ⟨_, (false), (by first | rfl | (simp; done) | (simp [*]; done)), H', ⟨by have := HK1.out; first | omega | exact Nat.le_refl _⟩, ⟨Kd.ur_ HO_5.out⟩, ⟨u_ BK143.out⟩, ⟨us_ HB.out⟩⟩
    replace c8 := Bool.eq_false_iff.mpr c8
    subst c8
    rw [if_neg (show ¬ (false = true) by decide)] at H
    by_cases c9 : 0 ≤ x7_1
    rotate_left
    ·rw [if_neg c9] at H
     exact absurd H (by simp)
    rw [if_pos c9] at H
    have c9b0 : decide (0 ≤ x7_1) = true := decide_eq_true c9
    clear c9
    (first | rw [c9b0] | (simp only [i64_w, i32_w]; rw [c9b0]) | skip)
    have H' := mk_ H
    clear H
    obtain ⟨hcz10_0, hcz10_1, hfz10_0, hfz10_1⟩ := cells2_ BK143.out
    have p150 : 0 ≤ (x7_1 : Int) := of_decide_eq_true (by first | (with_reducible assumption) | assumption)
    have q150 : x7_1 < (l0.length : Int) := of_decide_eq_true (by first | (with_reducible assumption) | assumption)
    obtain ⟨ad150, e150, hx150_0, hx150_1⟩ := at_T68 HR0.out x7_1 p150 q150
    cases e150
    replace hx150_0 := (HB.out.cell (lc_ w _ hx150_0)).trans hx150_0
    replace hx150_1 := (HB.out.cell (lc_ w _ hx150_1)).trans hx150_1
    replace p150 := eq_true p150
    replace q150 := eq_true q150
    go_wp2
    repeat (go_quiet (fail); try go_wp2)
    go_meet
    case rel => exact ⟨_, (decide (a1_0 < ((rd_T68 l0 x7_1).f0))), (by first | rfl | (simp; done) | (simp [*]; done)), H', ⟨by have := HK1.out; first | omega | exact Nat.le_refl _⟩, ⟨Kd.ur_ HO_5.out⟩, ⟨u_ BK143.out⟩, ⟨us_ HB.out⟩⟩
   case rest =>
    clear HC7
    try clear c1
    try clear p1
    try clear q1
    try clear hx1
    try clear p2
    try clear c6
    try clear c6b0
    try clear c8
    try clear c9
    try clear c9b0
    try clear hcz10_0
    try clear hcz10_1
    try clear hfz10_0
    try clear hfz10_1
    try clear hx150_0
    try clear hx150_1
    try clear p150
    try clear p2
    try clear q150
    obtain ⟨kq, x26_6, rfl, HA, HJ6, HO_5, BK143, HB⟩ := hcut
    cases kq with
    | zero => exact absurd HA.out (by simp [spec_l12Put.j1])
    | succ kj6 =>
     have H := HA.out
     clear HA
     simp only [spec_l12Put.j1] at H
     by_cases c11 : x26_6 = true
     ·subst c11
      rw [if_pos rfl] at H
      by_cases c12 : x5_1.length < 8796093022208
      rotate_left
      ·rw [if_neg c12] at H
       exact absurd H (by simp)
      rw [if_pos c12] at H
      have LMc12 := mk_ c12
      clear c12
      obtain ⟨y151, hy151⟩ : ∃ y_ : List (S68), y_ = (x5_1 ++ [(⟨a1_0, a1_1⟩ : S68)]) := ⟨_, rfl⟩
      replace H : (if 0 ≤ x7_1 then (if x7_1 < (l0.length : Int) then (if a1_0 = ((rd_T68 l0 x7_1).f0) then (if y151.length < 8796093022208 then (spec_l12Put.l0 kj6 l0 (y151 ++ [(⟨(rd_T68 l0 x7_1).f0, (rd_T68 l0 x7_1).f1⟩ : S68)]) true (wrap64 (x7_1 + 1)) a1_0 a1_1) else (none)) else (if y151.length < 8796093022208 then (spec_l12Put.l0 kj6 l0 (y151 ++ [(⟨(rd_T68 l0 x7_1).f0, (rd_T68 l0 x7_1).f1⟩ : S68)]) true (wrap64 (x7_1 + 1)) a1_0 a1_1) else (none))) else (none)) else (none)) = some r := by first | (rw [hy151]; with_reducible exact H) | (have H2_ := (Option.bind_some _ _).symm.trans H; rw [hy151]; with_reducible exact H2_) | (have H2_ := (Option.bind_some _ _).symm.trans H; with_reducible exact H2_) | with_reducible exact H | (rw [hy151]; exact H) | exact H
      have Ny151 := mk_ hy151
      clear hy151
      by_cases c13 : 0 ≤ x7_1
      rotate_left
      ·rw [if_neg c13] at H
       exact absurd H (by simp)
      rw [if_pos c13] at H
      have c13b0 : decide (0 ≤ x7_1) = true := decide_eq_true c13
      clear c13
      by_cases c14 : x7_1 < (l0.length : Int)
      rotate_left
      ·rw [if_neg c14] at H
       exact absurd H (by simp)
      rw [if_pos c14] at H
      have c14b0 : decide (x7_1 < (l0.length : Int)) = true := decide_eq_true c14
      clear c14
      by_cases c15 : a1_0 = ((rd_T68 l0 x7_1).f0)
      rotate_left
      ·rw [if_neg c15] at H
       have c15b0 : (a1_0 == ((rd_T68 l0 x7_1).f0)) = false := beq_eq_false_iff_ne.mpr c15
       have c15b1 : (a1_0 != ((rd_T68 l0 x7_1).f0)) = true := bne_iff_ne.mpr c15
       by_cases c21 : y151.length < 8796093022208
       rotate_left
       ·rw [if_neg c21] at H
        exact absurd H (by simp)
       rw [if_pos c21] at H
       have LMc21 := mk_ c21
       clear c21
       obtain ⟨y160, hy160⟩ : ∃ y_ : List (S68), y_ = (y151 ++ [(⟨(rd_T68 l0 x7_1).f0, (rd_T68 l0 x7_1).f1⟩ : S68)]) := ⟨_, rfl⟩
       replace H : (spec_l12Put.l0 kj6 l0 y160 true (wrap64 (x7_1 + 1)) a1_0 a1_1) = some r := by first | (rw [hy160]; with_reducible exact H) | (have H2_ := (Option.bind_some _ _).symm.trans H; rw [hy160]; with_reducible exact H2_) | (have H2_ := (Option.bind_some _ _).symm.trans H; with_reducible exact H2_) | with_reducible exact H | (rw [hy160]; exact H) | exact H
       have Ny160 := mk_ hy160
       clear hy160
       have H' := mk_ H
       clear H
       obtain ⟨_, _, _, _⟩ := cells2_ BK143.out
       go_wp2_with (first | ((with_reducible refine gate_builtin (b := .append) (xs := #[.tmp 27, .tmp 29]) rfl ?_); at_builtin; refine Kd.R_append k68 (w0 := w) w.heap.size rfl (.tmp 27) (.tmp 29) 57 68 (.agg #[(.int .i64 0), (.int .u8 0)]) 16 rfl Try.underlying57 info68 rfl (by decide) (by omega) u5 x5_1 (⟨a1_0, a1_1⟩ : S68) [.int .i64 a1_0, .int .u8 a1_1] (fun k_ => k_ ≠ gb143) (fun _ => False) rfl rfl ?aP (fun _ hk => hk.elim) ?aF ?aO ?aB ?aS ?aL ?_; (case aP => exact k68_mkM _ _ _ (⟨a1_0, a1_1⟩ : S68)); (case aB => exact (us_ HB.out)); (case aF => exact (fun k_ hk => Kd.freshB (g := gb143) (o := .cells #[.int .i64 a1_0, .int .u8 a1_1] 68 (0, 0)) (u_ BK143.out) k_ hk)); (case aO => exact (Kd.ur_ HO_5.out)); (case aS => exact (below_size (us_ HB.out))); (case aL => have := LMc12.out; omega); intro v152 w23 ho hb hg hat; rw [← Ny151.out] at ho; replace BK143 := mk_ (blk_grown (g := gb143) (o := .cells #[.int .i64 a1_0, .int .u8 a1_1] 68 (0, 0)) (u_ BK143.out) hg (Kd.R_away HO_5.out (fun _ hk => hk))); replace HB := mk_ (hb); have HO153 := mk_ (ho); clear HO_5; clear ho hb hg hat; obtain ⟨hcz24_0, hcz24_1, hfz24_0, hfz24_1⟩ := cells2_ BK143.out; have p154 : 0 ≤ (x7_1 : Int) := of_decide_eq_true (by first | (with_reducible assumption) | assumption); have q154 : x7_1 < (l0.length : Int) := of_decide_eq_true (by first | (with_reducible assumption) | assumption); obtain ⟨ad154, e154, hx154_0, hx154_1⟩ := at_T68 HR0.out x7_1 p154 q154; cases e154; replace hx154_0 := (HB.out.cell (lc_ w _ hx154_0)).trans hx154_0; replace hx154_1 := (HB.out.cell (lc_ w _ hx154_1)).trans hx154_1; replace p154 := eq_true p154; replace q154 := eq_true q154; have p159 : 0 ≤ (x7_1 : Int) := of_decide_eq_true (by first | (with_reducible assumption) | assumption); have q159 : x7_1 < (l0.length : Int) := of_decide_eq_true (by first | (with_reducible assumption) | assumption); obtain ⟨ad159, e159, hx159_0, hx159_1⟩ := at_T68 HR0.out x7_1 p159 q159; obtain rfl : ad154 = ad159 := (by injection e159); replace hx159_0 := (HB.out.cell (lc_ w _ hx159_0)).trans hx159_0; replace hx159_1 := (HB.out.cell (lc_ w _ hx159_1)).trans hx159_1; replace p159 := eq_true p159; replace q159 := eq_true q159) | ((with_reducible refine gate_builtin (b := .append) (xs := #[.tmp 39, .tmp 44]) rfl ?_); at_builtin; refine Kd.R_append k68 (w0 := w) w.heap.size rfl (.tmp 39) (.tmp 44) 57 68 (.agg #[(.int .i64 0), (.int .u8 0)]) 16 rfl Try.underlying57 info68 rfl (by decide) (by omega) v152 y151 (⟨(rd_T68 l0 x7_1).f0, (rd_T68 l0 x7_1).f1⟩ : S68) [.int .i64 ((rd_T68 l0 x7_1).f0), .int .u8 ((rd_T68 l0 x7_1).f1)] (fun k_ => k_ ≠ gb143) (fun _ => False) rfl rfl ?aP (fun _ hk => hk.elim) ?aF ?aO ?aB ?aS ?aL ?_; (case aP => exact k68_mkM _ _ _ (⟨(rd_T68 l0 x7_1).f0, (rd_T68 l0 x7_1).f1⟩ : S68)); (case aB => exact (us_ HB.out)); (case aF => exact (fun k_ hk => Kd.freshB (g := gb143) (o := .cells #[.int .i64 a1_0, .int .u8 a1_1] 68 (0, 0)) (u_ BK143.out) k_ hk)); (case aO => exact (Kd.ur_ HO153.out)); (case aS => exact (below_size (us_ HB.out))); (case aL => have := LMc21.out; omega); intro v161 w25 ho hb hg hat; rw [← Ny160.out] at ho; replace BK143 := mk_ (blk_grown (g := gb143) (o := .cells #[.int .i64 a1_0, .int .u8 a1_1] 68 (0, 0)) (u_ BK143.out) hg (Kd.R_away HO153.out (fun _ hk => hk))); replace HB := mk_ (hb); have HO162 := mk_ (ho); clear HO153; clear ho hb hg hat))
       repeat (go_quiet (first | ((with_reducible refine gate_builtin (b := .append) (xs := #[.tmp 27, .tmp 29]) rfl ?_); at_builtin; refine Kd.R_append k68 (w0 := w) w.heap.size rfl (.tmp 27) (.tmp 29) 57 68 (.agg #[(.int .i64 0), (.int .u8 0)]) 16 rfl Try.underlying57 info68 rfl (by decide) (by omega) u5 x5_1 (⟨a1_0, a1_1⟩ : S68) [.int .i64 a1_0, .int .u8 a1_1] (fun k_ => k_ ≠ gb143) (fun _ => False) rfl rfl ?aP (fun _ hk => hk.elim) ?aF ?aO ?aB ?aS ?aL ?_; (case aP => exact k68_mkM _ _ _ (⟨a1_0, a1_1⟩ : S68)); (case aB => exact (us_ HB.out)); (case aF => exact (fun k_ hk => Kd.freshB (g := gb143) (o := .cells #[.int .i64 a1_0, .int .u8 a1_1] 68 (0, 0)) (u_ BK143.out) k_ hk)); (case aO => exact (Kd.ur_ HO_5.out)); (case aS => exact (below_size (us_ HB.out))); (case aL => have := LMc12.out; omega); intro v152 w23 ho hb hg hat; rw [← Ny151.out] at ho; replace BK143 := mk_ (blk_grown (g := gb143) (o := .cells #[.int .i64 a1_0, .int .u8 a1_1] 68 (0, 0)) (u_ BK143.out) hg (Kd.R_away HO_5.out (fun _ hk => hk))); replace HB := mk_ (hb); have HO153 := mk_ (ho); clear HO_5; clear ho hb hg hat; obtain ⟨hcz24_0, hcz24_1, hfz24_0, hfz24_1⟩ := cells2_ BK143.out; have p154 : 0 ≤ (x7_1 : Int) := of_decide_eq_true (by first | (with_reducible assumption) | assumption); have q154 : x7_1 < (l0.length : Int) := of_decide_eq_true (by first | (with_reducible assumption) | assumption); obtain ⟨ad154, e154, hx154_0, hx154_1⟩ := at_T68 HR0.out x7_1 p154 q154; cases e154; replace hx154_0 := (HB.out.cell (lc_ w _ hx154_0)).trans hx154_0; replace hx154_1 := (HB.out.cell (lc_ w _ hx154_1)).trans hx154_1; replace p154 := eq_true p154; replace q154 := eq_true q154; have p159 : 0 ≤ (x7_1 : Int) := of_decide_eq_true (by first | (with_reducible assumption) | assumption); have q159 : x7_1 < (l0.length : Int) := of_decide_eq_true (by first | (with_reducible assumption) | assumption); obtain ⟨ad159, e159, hx159_0, hx159_1⟩ := at_T68 HR0.out x7_1 p159 q159; obtain rfl : ad154 = ad159 := (by injection e159); replace hx159_0 := (HB.out.cell (lc_ w _ hx159_0)).trans hx159_0; replace hx159_1 := (HB.out.cell (lc_ w _ hx159_1)).trans hx159_1; replace p159 := eq_true p159; replace q159 := eq_true q159) | ((with_reducible refine gate_builtin (b := .append) (xs := #[.tmp 39, .tmp 44]) rfl ?_); at_builtin; refine Kd.R_append k68 (w0 := w) w.heap.size rfl (.tmp 39) (.tmp 44) 57 68 (.agg #[(.int .i64 0), (.int .u8 0)]) 16 rfl Try.underlying57 info68 rfl (by decide) (by omega) v152 y151 (⟨(rd_T68 l0 x7_1).f0, (rd_T68 l0 x7_1).f1⟩ : S68) [.int .i64 ((rd_T68 l0 x7_1).f0), .int .u8 ((rd_T68 l0 x7_1).f1)] (fun k_ => k_ ≠ gb143) (fun _ => False) rfl rfl ?aP (fun _ hk => hk.elim) ?aF ?aO ?aB ?aS ?aL ?_; (case aP => exact k68_mkM _ _ _ (⟨(rd_T68 l0 x7_1).f0, (rd_T68 l0 x7_1).f1⟩ : S68)); (case aB => exact (us_ HB.out)); (case aF => exact (fun k_ hk => Kd.freshB (g := gb143) (o := .cells #[.int .i64 a1_0, .int .u8 a1_1] 68 (0, 0)) (u_ BK143.out) k_ hk)); (case aO => exact (Kd.ur_ HO153.out)); (case aS => exact (below_size (us_ HB.out))); (case aL => have := LMc21.out; omega); intro v161 w25 ho hb hg hat; rw [← Ny160.out] at ho; replace BK143 := mk_ (blk_grown (g := gb143) (o := .cells #[.int .i64 a1_0, .int .u8 a1_1] 68 (0, 0)) (u_ BK143.out) hg (Kd.R_away HO153.out (fun _ hk => hk))); replace HB := mk_ (hb); have HO162 := mk_ (ho); clear HO153; clear ho hb hg hat)); try go_wp2_with (first | ((with_reducible refine gate_builtin (b := .append) (xs := #[.tmp 27, .tmp 29]) rfl ?_); at_builtin; refine Kd.R_append k68 (w0 := w) w.heap.size rfl (.tmp 27) (.tmp 29) 57 68 (.agg #[(.int .i64 0), (.int .u8 0)]) 16 rfl Try.underlying57 info68 rfl (by decide) (by omega) u5 x5_1 (⟨a1_0, a1_1⟩ : S68) [.int .i64 a1_0, .int .u8 a1_1] (fun k_ => k_ ≠ gb143) (fun _ => False) rfl rfl ?aP (fun _ hk => hk.elim) ?aF ?aO ?aB ?aS ?aL ?_; (case aP => exact k68_mkM _ _ _ (⟨a1_0, a1_1⟩ : S68)); (case aB => exact (us_ HB.out)); (case aF => exact (fun k_ hk => Kd.freshB (g := gb143) (o := .cells #[.int .i64 a1_0, .int .u8 a1_1] 68 (0, 0)) (u_ BK143.out) k_ hk)); (case aO => exact (Kd.ur_ HO_5.out)); (case aS => exact (below_size (us_ HB.out))); (case aL => have := LMc12.out; omega); intro v152 w23 ho hb hg hat; rw [← Ny151.out] at ho; replace BK143 := mk_ (blk_grown (g := gb143) (o := .cells #[.int .i64 a1_0, .int .u8 a1_1] 68 (0, 0)) (u_ BK143.out) hg (Kd.R_away HO_5.out (fun _ hk => hk))); replace HB := mk_ (hb); have HO153 := mk_ (ho); clear HO_5; clear ho hb hg hat; obtain ⟨hcz24_0, hcz24_1, hfz24_0, hfz24_1⟩ := cells2_ BK143.out; have p154 : 0 ≤ (x7_1 : Int) := of_decide_eq_true (by first | (with_reducible assumption) | assumption); have q154 : x7_1 < (l0.length : Int) := of_decide_eq_true (by first | (with_reducible assumption) | assumption); obtain ⟨ad154, e154, hx154_0, hx154_1⟩ := at_T68 HR0.out x7_1 p154 q154; cases e154; replace hx154_0 := (HB.out.cell (lc_ w _ hx154_0)).trans hx154_0; replace hx154_1 := (HB.out.cell (lc_ w _ hx154_1)).trans hx154_1; replace p154 := eq_true p154; replace q154 := eq_true q154; have p159 : 0 ≤ (x7_1 : Int) := of_decide_eq_true (by first | (with_reducible assumption) | assumption); have q159 : x7_1 < (l0.length : Int) := of_decide_eq_true (by first | (with_reducible assumption) | assumption); obtain ⟨ad159, e159, hx159_0, hx159_1⟩ := at_T68 HR0.out x7_1 p159 q159; obtain rfl : ad154 = ad159 := (by injection e159); replace hx159_0 := (HB.out.cell (lc_ w _ hx159_0)).trans hx159_0; replace hx159_1 := (HB.out.cell (lc_ w _ hx159_1)).trans hx159_1; replace p159 := eq_true p159; replace q159 := eq_true q159) | ((with_reducible refine gate_builtin (b := .append) (xs := #[.tmp 39, .tmp 44]) rfl ?_); at_builtin; refine Kd.R_append k68 (w0 := w) w.heap.size rfl (.tmp 39) (.tmp 44) 57 68 (.agg #[(.int .i64 0), (.int .u8 0)]) 16 rfl Try.underlying57 info68 rfl (by decide) (by omega) v152 y151 (⟨(rd_T68 l0 x7_1).f0, (rd_T68 l0 x7_1).f1⟩ : S68) [.int .i64 ((rd_T68 l0 x7_1).f0), .int .u8 ((rd_T68 l0 x7_1).f1)] (fun k_ => k_ ≠ gb143) (fun _ => False) rfl rfl ?aP (fun _ hk => hk.elim) ?aF ?aO ?aB ?aS ?aL ?_; (case aP => exact k68_mkM _ _ _ (⟨(rd_T68 l0 x7_1).f0, (rd_T68 l0 x7_1).f1⟩ : S68)); (case aB => exact (us_ HB.out)); (case aF => exact (fun k_ hk => Kd.freshB (g := gb143) (o := .cells #[.int .i64 a1_0, .int .u8 a1_1] 68 (0, 0)) (u_ BK143.out) k_ hk)); (case aO => exact (Kd.ur_ HO153.out)); (case aS => exact (below_size (us_ HB.out))); (case aL => have := LMc21.out; omega); intro v161 w25 ho hb hg hat; rw [← Ny160.out] at ho; replace BK143 := mk_ (blk_grown (g := gb143) (o := .cells #[.int .i64 a1_0, .int .u8 a1_1] 68 (0, 0)) (u_ BK143.out) hg (Kd.R_away HO153.out (fun _ hk => hk))); replace HB := mk_ (hb); have HO162 := mk_ (ho); clear HO153; clear ho hb hg hat)))
       go_roundg kj6
       case measure => have := HK1.out; have := HJ6.out; omega
       case rel => exact ⟨(y160), (true), (wrap64 (x7_1 + 1)), (by first | rfl | (simp; done) | (simp [*]; done)), (by first | rfl | (simp; done) | (simp [*]; done)), H', ⟨by have := HK1.out; have := HJ6.out; omega⟩, ⟨Kd.ur_ HO162.out⟩, ⟨u_ BK143.out⟩, ⟨us_ HB.out⟩⟩
      rw [if_pos c15] at H
      have c15b0 : (a1_0 == ((rd_T68 l0 x7_1).f0)) = true := beq_iff_eq.mpr c15
      have c15b1 : (a1_0 != ((rd_T68 l0 x7_1).f0)) = false := bne_eq_false_iff_eq.mpr c15
      clear c15
      by_cases c16 : y151.length < 8796093022208
      rotate_left
      ·rw [if_neg c16] at H
       exact absurd H (by simp)
      rw [if_pos c16] at H
      have LMc16 := mk_ c16
      clear c16
      obtain ⟨y156, hy156⟩ : ∃ y_ : List (S68), y_ = (y151 ++ [(⟨(rd_T68 l0 x7_1).f0, (rd_T68 l0 x7_1).f1⟩ : S68)]) := ⟨_, rfl⟩
      replace H : (spec_l12Put.l0 kj6 l0 y156 true (wrap64 (x7_1 + 1)) a1_0 a1_1) = some r := by first | (rw [hy156]; with_reducible exact H) | (have H2_ := (Option.bind_some _ _).symm.trans H; rw [hy156]; with_reducible exact H2_) | (have H2_ := (Option.bind_some _ _).symm.trans H; with_reducible exact H2_) | with_reducible exact H | (rw [hy156]; exact H) | exact H
      have Ny156 := mk_ hy156
      clear hy156
      have H' := mk_ H
      clear H
      obtain ⟨_, _, _, _⟩ := cells2_ BK143.out
      go_wp2_with (first | ((with_reducible refine gate_builtin (b := .append) (xs := #[.tmp 27, .tmp 29]) rfl ?_); at_builtin; refine Kd.R_append k68 (w0 := w) w.heap.size rfl (.tmp 27) (.tmp 29) 57 68 (.agg #[(.int .i64 0), (.int .u8 0)]) 16 rfl Try.underlying57 info68 rfl (by decide) (by omega) u5 x5_1 (⟨a1_0, a1_1⟩ : S68) [.int .i64 a1_0, .int .u8 a1_1] (fun k_ => k_ ≠ gb143) (fun _ => False) rfl rfl ?aP (fun _ hk => hk.elim) ?aF ?aO ?aB ?aS ?aL ?_; (case aP => exact k68_mkM _ _ _ (⟨a1_0, a1_1⟩ : S68)); (case aB => exact (us_ HB.out)); (case aF => exact (fun k_ hk => Kd.freshB (g := gb143) (o := .cells #[.int .i64 a1_0, .int .u8 a1_1] 68 (0, 0)) (u_ BK143.out) k_ hk)); (case aO => exact (Kd.ur_ HO_5.out)); (case aS => exact (below_size (us_ HB.out))); (case aL => have := LMc12.out; omega); intro v152 w18 ho hb hg hat; rw [← Ny151.out] at ho; replace BK143 := mk_ (blk_grown (g := gb143) (o := .cells #[.int .i64 a1_0, .int .u8 a1_1] 68 (0, 0)) (u_ BK143.out) hg (Kd.R_away HO_5.out (fun _ hk => hk))); replace HB := mk_ (hb); have HO153 := mk_ (ho); clear HO_5; clear ho hb hg hat; obtain ⟨hcz19_0, hcz19_1, hfz19_0, hfz19_1⟩ := cells2_ BK143.out; have p154 : 0 ≤ (x7_1 : Int) := of_decide_eq_true (by first | (with_reducible assumption) | assumption); have q154 : x7_1 < (l0.length : Int) := of_decide_eq_true (by first | (with_reducible assumption) | assumption); obtain ⟨ad154, e154, hx154_0, hx154_1⟩ := at_T68 HR0.out x7_1 p154 q154; cases e154; replace hx154_0 := (HB.out.cell (lc_ w _ hx154_0)).trans hx154_0; replace hx154_1 := (HB.out.cell (lc_ w _ hx154_1)).trans hx154_1; replace p154 := eq_true p154; replace q154 := eq_true q154; have p155 : 0 ≤ (x7_1 : Int) := of_decide_eq_true (by first | (with_reducible assumption) | assumption); have q155 : x7_1 < (l0.length : Int) := of_decide_eq_true (by first | (with_reducible assumption) | assumption); obtain ⟨ad155, e155, hx155_0, hx155_1⟩ := at_T68 HR0.out x7_1 p155 q155; obtain rfl : ad154 = ad155 := (by injection e155); replace hx155_0 := (HB.out.cell (lc_ w _ hx155_0)).trans hx155_0; replace hx155_1 := (HB.out.cell (lc_ w _ hx155_1)).trans hx155_1; replace p155 := eq_true p155; replace q155 := eq_true q155) | ((with_reducible refine gate_builtin (b := .append) (xs := #[.tmp 39, .tmp 44]) rfl ?_); at_builtin; refine Kd.R_append k68 (w0 := w) w.heap.size rfl (.tmp 39) (.tmp 44) 57 68 (.agg #[(.int .i64 0), (.int .u8 0)]) 16 rfl Try.underlying57 info68 rfl (by decide) (by omega) v152 y151 (⟨(rd_T68 l0 x7_1).f0, (rd_T68 l0 x7_1).f1⟩ : S68) [.int .i64 ((rd_T68 l0 x7_1).f0), .int .u8 ((rd_T68 l0 x7_1).f1)] (fun k_ => k_ ≠ gb143) (fun _ => False) rfl rfl ?aP (fun _ hk => hk.elim) ?aF ?aO ?aB ?aS ?aL ?_; (case aP => exact k68_mkM _ _ _ (⟨(rd_T68 l0 x7_1).f0, (rd_T68 l0 x7_1).f1⟩ : S68)); (case aB => exact (us_ HB.out)); (case aF => exact (fun k_ hk => Kd.freshB (g := gb143) (o := .cells #[.int .i64 a1_0, .int .u8 a1_1] 68 (0, 0)) (u_ BK143.out) k_ hk)); (case aO => exact (Kd.ur_ HO153.out)); (case aS => exact (below_size (us_ HB.out))); (case aL => have := LMc16.out; omega); intro v157 w20 ho hb hg hat; rw [← Ny156.out] at ho; replace BK143 := mk_ (blk_grown (g := gb143) (o := .cells #[.int .i64 a1_0, .int .u8 a1_1] 68 (0, 0)) (u_ BK143.out) hg (Kd.R_away HO153.out (fun _ hk => hk))); replace HB := mk_ (hb); have HO158 := mk_ (ho); clear HO153; clear ho hb hg hat))
      repeat (go_quiet (first | ((with_reducible refine gate_builtin (b := .append) (xs := #[.tmp 27, .tmp 29]) rfl ?_); at_builtin; refine Kd.R_append k68 (w0 := w) w.heap.size rfl (.tmp 27) (.tmp 29) 57 68 (.agg #[(.int .i64 0), (.int .u8 0)]) 16 rfl Try.underlying57 info68 rfl (by decide) (by omega) u5 x5_1 (⟨a1_0, a1_1⟩ : S68) [.int .i64 a1_0, .int .u8 a1_1] (fun k_ => k_ ≠ gb143) (fun _ => False) rfl rfl ?aP (fun _ hk => hk.elim) ?aF ?aO ?aB ?aS ?aL ?_; (case aP => exact k68_mkM _ _ _ (⟨a1_0, a1_1⟩ : S68)); (case aB => exact (us_ HB.out)); (case aF => exact (fun k_ hk => Kd.freshB (g := gb143) (o := .cells #[.int .i64 a1_0, .int .u8 a1_1] 68 (0, 0)) (u_ BK143.out) k_ hk)); (case aO => exact (Kd.ur_ HO_5.out)); (case aS => exact (below_size (us_ HB.out))); (case aL => have := LMc12.out; omega); intro v152 w18 ho hb hg hat; rw [← Ny151.out] at ho; replace BK143 := mk_ (blk_grown (g := gb143) (o := .cells #[.int .i64 a1_0, .int .u8 a1_1] 68 (0, 0)) (u_ BK143.out) hg (Kd.R_away HO_5.out (fun _ hk => hk))); replace HB := mk_ (hb); have HO153 := mk_ (ho); clear HO_5; clear ho hb hg hat; obtain ⟨hcz19_0, hcz19_1, hfz19_0, hfz19_1⟩ := cells2_ BK143.out; have p154 : 0 ≤ (x7_1 : Int) := of_decide_eq_true (by first | (with_reducible assumption) | assumption); have q154 : x7_1 < (l0.length : Int) := of_decide_eq_true (by first | (with_reducible assumption) | assumption); obtain ⟨ad154, e154, hx154_0, hx154_1⟩ := at_T68 HR0.out x7_1 p154 q154; cases e154; replace hx154_0 := (HB.out.cell (lc_ w _ hx154_0)).trans hx154_0; replace hx154_1 := (HB.out.cell (lc_ w _ hx154_1)).trans hx154_1; replace p154 := eq_true p154; replace q154 := eq_true q154; have p155 : 0 ≤ (x7_1 : Int) := of_decide_eq_true (by first | (with_reducible assumption) | assumption); have q155 : x7_1 < (l0.length : Int) := of_decide_eq_true (by first | (with_reducible assumption) | assumption); obtain ⟨ad155, e155, hx155_0, hx155_1⟩ := at_T68 HR0.out x7_1 p155 q155; obtain rfl : ad154 = ad155 := (by injection e155); replace hx155_0 := (HB.out.cell (lc_ w _ hx155_0)).trans hx155_0; replace hx155_1 := (HB.out.cell (lc_ w _ hx155_1)).trans hx155_1; replace p155 := eq_true p155; replace q155 := eq_true q155) | ((with_reducible refine gate_builtin (b := .append) (xs := #[.tmp 39, .tmp 44]) rfl ?_); at_builtin; refine Kd.R_append k68 (w0 := w) w.heap.size rfl (.tmp 39) (.tmp 44) 57 68 (.agg #[(.int .i64 0), (.int .u8 0)]) 16 rfl Try.underlying57 info68 rfl (by decide) (by omega) v152 y151 (⟨(rd_T68 l0 x7_1).f0, (rd_T68 l0 x7_1).f1⟩ : S68) [.int .i64 ((rd_T68 l0 x7_1).f0), .int .u8 ((rd_T68 l0 x7_1).f1)] (fun k_ => k_ ≠ gb143) (fun _ => False) rfl rfl ?aP (fun _ hk => hk.elim) ?aF ?aO ?aB ?aS ?aL ?_; (case aP => exact k68_mkM _ _ _ (⟨(rd_T68 l0 x7_1).f0, (rd_T68 l0 x7_1).f1⟩ : S68)); (case aB => exact (us_ HB.out)); (case aF => exact (fun k_ hk => Kd.freshB (g := gb143) (o := .cells #[.int .i64 a1_0, .int .u8 a1_1] 68 (0, 0)) (u_ BK143.out) k_ hk)); (case aO => exact (Kd.ur_ HO153.out)); (case aS => exact (below_size (us_ HB.out))); (case aL => have := LMc16.out; omega); intro v157 w20 ho hb hg hat; rw [← Ny156.out] at ho; replace BK143 := mk_ (blk_grown (g := gb143) (o := .cells #[.int .i64 a1_0, .int .u8 a1_1] 68 (0, 0)) (u_ BK143.out) hg (Kd.R_away HO153.out (fun _ hk => hk))); replace HB := mk_ (hb); have HO158 := mk_ (ho); clear HO153; clear ho hb hg hat)); try go_wp2_with (first | ((with_reducible refine gate_builtin (b := .append) (xs := #[.tmp 27, .tmp 29]) rfl ?_); at_builtin; refine Kd.R_append k68 (w0 := w) w.heap.size rfl (.tmp 27) (.tmp 29) 57 68 (.agg #[(.int .i64 0), (.int .u8 0)]) 16 rfl Try.underlying57 info68 rfl (by decide) (by omega) u5 x5_1 (⟨a1_0, a1_1⟩ : S68) [.int .i64 a1_0, .int .u8 a1_1] (fun k_ => k_ ≠ gb143) (fun _ => False) rfl rfl ?aP (fun _ hk => hk.elim) ?aF ?aO ?aB ?aS ?aL ?_; (case aP => exact k68_mkM _ _ _ (⟨a1_0, a1_1⟩ : S68)); (case aB => exact (us_ HB.out)); (case aF => exact (fun k_ hk => Kd.freshB (g := gb143) (o := .cells #[.int .i64 a1_0, .int .u8 a1_1] 68 (0, 0)) (u_ BK143.out) k_ hk)); (case aO => exact (Kd.ur_ HO_5.out)); (case aS => exact (below_size (us_ HB.out))); (case aL => have := LMc12.out; omega); intro v152 w18 ho hb hg hat; rw [← Ny151.out] at ho; replace BK143 := mk_ (blk_grown (g := gb143) (o := .cells #[.int .i64 a1_0, .int .u8 a1_1] 68 (0, 0)) (u_ BK143.out) hg (Kd.R_away HO_5.out (fun _ hk => hk))); replace HB := mk_ (hb); have HO153 := mk_ (ho); clear HO_5; clear ho hb hg hat; obtain ⟨hcz19_0, hcz19_1, hfz19_0, hfz19_1⟩ := cells2_ BK143.out; have p154 : 0 ≤ (x7_1 : Int) := of_decide_eq_true (by first | (with_reducible assumption) | assumption); have q154 : x7_1 < (l0.length : Int) := of_decide_eq_true (by first | (with_reducible assumption) | assumption); obtain ⟨ad154, e154, hx154_0, hx154_1⟩ := at_T68 HR0.out x7_1 p154 q154; cases e154; replace hx154_0 := (HB.out.cell (lc_ w _ hx154_0)).trans hx154_0; replace hx154_1 := (HB.out.cell (lc_ w _ hx154_1)).trans hx154_1; replace p154 := eq_true p154; replace q154 := eq_true q154; have p155 : 0 ≤ (x7_1 : Int) := of_decide_eq_true (by first | (with_reducible assumption) | assumption); have q155 : x7_1 < (l0.length : Int) := of_decide_eq_true (by first | (with_reducible assumption) | assumption); obtain ⟨ad155, e155, hx155_0, hx155_1⟩ := at_T68 HR0.out x7_1 p155 q155; obtain rfl : ad154 = ad155 := (by injection e155); replace hx155_0 := (HB.out.cell (lc_ w _ hx155_0)).trans hx155_0; replace hx155_1 := (HB.out.cell (lc_ w _ hx155_1)).trans hx155_1; replace p155 := eq_true p155; replace q155 := eq_true q155) | ((with_reducible refine gate_builtin (b := .append) (xs := #[.tmp 39, .tmp 44]) rfl ?_); at_builtin; refine Kd.R_append k68 (w0 := w) w.heap.size rfl (.tmp 39) (.tmp 44) 57 68 (.agg #[(.int .i64 0), (.int .u8 0)]) 16 rfl Try.underlying57 info68 rfl (by decide) (by omega) v152 y151 (⟨(rd_T68 l0 x7_1).f0, (rd_T68 l0 x7_1).f1⟩ : S68) [.int .i64 ((rd_T68 l0 x7_1).f0), .int .u8 ((rd_T68 l0 x7_1).f1)] (fun k_ => k_ ≠ gb143) (fun _ => False) rfl rfl ?aP (fun _ hk => hk.elim) ?aF ?aO ?aB ?aS ?aL ?_; (case aP => exact k68_mkM _ _ _ (⟨(rd_T68 l0 x7_1).f0, (rd_T68 l0 x7_1).f1⟩ : S68)); (case aB => exact (us_ HB.out)); (case aF => exact (fun k_ hk => Kd.freshB (g := gb143) (o := .cells #[.int .i64 a1_0, .int .u8 a1_1] 68 (0, 0)) (u_ BK143.out) k_ hk)); (case aO => exact (Kd.ur_ HO153.out)); (case aS => exact (below_size (us_ HB.out))); (case aL => have := LMc16.out; omega); intro v157 w20 ho hb hg hat; rw [← Ny156.out] at ho; replace BK143 := mk_ (blk_grown (g := gb143) (o := .cells #[.int .i64 a1_0, .int .u8 a1_1] 68 (0, 0)) (u_ BK143.out) hg (Kd.R_away HO153.out (fun _ hk => hk))); replace HB := mk_ (hb); have HO158 := mk_ (ho); clear HO153; clear ho hb hg hat)))
      go_roundg kj6
      case measure => have := HK1.out; have := HJ6.out; omega
      case rel => exact ⟨(y156), (true), (wrap64 (x7_1 + 1)), (by first | rfl | (simp; done) | (simp [*]; done)), (by first | rfl | (simp; done) | (simp [*]; done)), H', ⟨by have := HK1.out; have := HJ6.out; omega⟩, ⟨Kd.ur_ HO158.out⟩, ⟨u_ BK143.out⟩, ⟨us_ HB.out⟩⟩
     replace c11 := Bool.eq_false_iff.mpr c11
     subst c11
     rw [if_neg (show ¬ (false = true) by decide)] at H
     by_cases c26 : 0 ≤ x7_1
     rotate_left
     ·rw [if_neg c26] at H
      exact absurd H (by simp)
     rw [if_pos c26] at H
     have c26b0 : decide (0 ≤ x7_1) = true := decide_eq_true c26
     clear c26
     by_cases c27 : x7_1 < (l0.length : Int)
     rotate_left
     ·rw [if_neg c27] at H
      exact absurd H (by simp)
     rw [if_pos c27] at H
     have c27b0 : decide (x7_1 < (l0.length : Int)) = true := decide_eq_true c27
     clear c27
     by_cases c28 : a1_0 = ((rd_T68 l0 x7_1).f0)
     rotate_left
     ·rw [if_neg c28] at H
      have c28b0 : (a1_0 == ((rd_T68 l0 x7_1).f0)) = false := beq_eq_false_iff_ne.mpr c28
      have c28b1 : (a1_0 != ((rd_T68 l0 x7_1).f0)) = true := bne_iff_ne.mpr c28
      by_cases c32 : x5_1.length < 8796093022208
      rotate_left
      ·rw [if_neg c32] at H
       exact absurd H (by simp)
      rw [if_pos c32] at H
      have LMc32 := mk_ c32
      clear c32
      obtain ⟨y169, hy169⟩ : ∃ y_ : List (S68), y_ = (x5_1 ++ [(⟨(rd_T68 l0 x7_1).f0, (rd_T68 l0 x7_1).f1⟩ : S68)]) := ⟨_, rfl⟩
      replace H : (spec_l12Put.l0 kj6 l0 y169 x6_1 (wrap64 (x7_1 + 1)) a1_0 a1_1) = some r := by first | (rw [hy169]; with_reducible exact H) | (have H2_ := (Option.bind_some _ _).symm.trans H; rw [hy169]; with_reducible exact H2_) | (have H2_ := (Option.bind_some _ _).symm.trans H; with_reducible exact H2_) | with_reducible exact H | (rw [hy169]; exact H) | exact H
      have Ny169 := mk_ hy169
      clear hy169
      have H' := mk_ H
      clear H
      obtain ⟨_, _, _, _⟩ := cells2_ BK143.out
      have p163 : 0 ≤ (x7_1 : Int) := of_decide_eq_true (by first | (with_reducible assumption) | assumption)
      have q163 : x7_1 < (l0.length : Int) := of_decide_eq_true (by first | (with_reducible assumption) | assumption)
      obtain ⟨ad163, e163, hx163_0, hx163_1⟩ := at_T68 HR0.out x7_1 p163 q163
      cases e163
      replace hx163_0 := (HB.out.cell (lc_ w _ hx163_0)).trans hx163_0
      replace hx163_1 := (HB.out.cell (lc_ w _ hx163_1)).trans hx163_1
      replace p163 := eq_true p163
      replace q163 := eq_true q163
      have p168 : 0 ≤ (x7_1 : Int) := of_decide_eq_true (by first | (with_reducible assumption) | assumption)
      have q168 : x7_1 < (l0.length : Int) := of_decide_eq_true (by first | (with_reducible assumption) | assumption)
      obtain ⟨ad168, e168, hx168_0, hx168_1⟩ := at_T68 HR0.out x7_1 p168 q168
      obtain rfl : ad163 = ad168 := (by injection e168)
      replace hx168_0 := (HB.out.cell (lc_ w _ hx168_0)).trans hx168_0
      replace hx168_1 := (HB.out.cell (lc_ w _ hx168_1)).trans hx168_1
      replace p168 := eq_true p168
      replace q168 := eq_true q168
      go_wp2_with (first | ((with_reducible refine gate_builtin (b := .append) (xs := #[.tmp 39, .tmp 44]) rfl ?_); at_builtin; refine Kd.R_append k68 (w0 := w) w.heap.size rfl (.tmp 39) (.tmp 44) 57 68 (.agg #[(.int .i64 0), (.int .u8 0)]) 16 rfl Try.underlying57 info68 rfl (by decide) (by omega) u5 x5_1 (⟨(rd_T68 l0 x7_1).f0, (rd_T68 l0 x7_1).f1⟩ : S68) [.int .i64 ((rd_T68 l0 x7_1).f0), .int .u8 ((rd_T68 l0 x7_1).f1)] (fun k_ => k_ ≠ gb143) (fun _ => False) rfl rfl ?aP (fun _ hk => hk.elim) ?aF ?aO ?aB ?aS ?aL ?_; (case aP => exact k68_mkM _ _ _ (⟨(rd_T68 l0 x7_1).f0, (rd_T68 l0 x7_1).f1⟩ : S68)); (case aB => exact (us_ HB.out)); (case aF => exact (fun k_ hk => Kd.freshB (g := gb143) (o := .cells #[.int .i64 a1_0, .int .u8 a1_1] 68 (0, 0)) (u_ BK143.out) k_ hk)); (case aO => exact (Kd.ur_ HO_5.out)); (case aS => exact (below_size (us_ HB.out))); (case aL => have := LMc32.out; omega); intro v170 w34 ho hb hg hat; rw [← Ny169.out] at ho; replace BK143 := mk_ (blk_grown (g := gb143) (o := .cells #[.int .i64 a1_0, .int .u8 a1_1] 68 (0, 0)) (u_ BK143.out) hg (Kd.R_away HO_5.out (fun _ hk => hk))); replace HB := mk_ (hb); have HO171 := mk_ (ho); clear HO_5; clear ho hb hg hat))
      repeat (go_quiet (first | ((with_reducible refine gate_builtin (b := .append) (xs := #[.tmp 39, .tmp 44]) rfl ?_); at_builtin; refine Kd.R_append k68 (w0 := w) w.heap.size rfl (.tmp 39) (.tmp 44) 57 68 (.agg #[(.int .i64 0), (.int .u8 0)]) 16 rfl Try.underlying57 info68 rfl (by decide) (by omega) u5 x5_1 (⟨(rd_T68 l0 x7_1).f0, (rd_T68 l0 x7_1).f1⟩ : S68) [.int .i64 ((rd_T68 l0 x7_1).f0), .int .u8 ((rd_T68 l0 x7_1).f1)] (fun k_ => k_ ≠ gb143) (fun _ => False) rfl rfl ?aP (fun _ hk => hk.elim) ?aF ?aO ?aB ?aS ?aL ?_; (case aP => exact k68_mkM _ _ _ (⟨(rd_T68 l0 x7_1).f0, (rd_T68 l0 x7_1).f1⟩ : S68)); (case aB => exact (us_ HB.out)); (case aF => exact (fun k_ hk => Kd.freshB (g := gb143) (o := .cells #[.int .i64 a1_0, .int .u8 a1_1] 68 (0, 0)) (u_ BK143.out) k_ hk)); (case aO => exact (Kd.ur_ HO_5.out)); (case aS => exact (below_size (us_ HB.out))); (case aL => have := LMc32.out; omega); intro v170 w34 ho hb hg hat; rw [← Ny169.out] at ho; replace BK143 := mk_ (blk_grown (g := gb143) (o := .cells #[.int .i64 a1_0, .int .u8 a1_1] 68 (0, 0)) (u_ BK143.out) hg (Kd.R_away HO_5.out (fun _ hk => hk))); replace HB := mk_ (hb); have HO171 := mk_ (ho); clear HO_5; clear ho hb hg hat)); try go_wp2_with (first | ((with_reducible refine gate_builtin (b := .append) (xs := #[.tmp 39, .tmp 44]) rfl ?_); at_builtin; refine Kd.R_append k68 (w0 := w) w.heap.size rfl (.tmp 39) (.tmp 44) 57 68 (.agg #[(.int .i64 0), (.int .u8 0)]) 16 rfl Try.underlying57 info68 rfl (by decide) (by omega) u5 x5_1 (⟨(rd_T68 l0 x7_1).f0, (rd_T68 l0 x7_1).f1⟩ : S68) [.int .i64 ((rd_T68 l0 x7_1).f0), .int .u8 ((rd_T68 l0 x7_1).f1)] (fun k_ => k_ ≠ gb143) (fun _ => False) rfl rfl ?aP (fun _ hk => hk.elim) ?aF ?aO ?aB ?aS ?aL ?_; (case aP => exact k68_mkM _ _ _ (⟨(rd_T68 l0 x7_1).f0, (rd_T68 l0 x7_1).f1⟩ : S68)); (case aB => exact (us_ HB.out)); (case aF => exact (fun k_ hk => Kd.freshB (g := gb143) (o := .cells #[.int .i64 a1_0, .int .u8 a1_1] 68 (0, 0)) (u_ BK143.out) k_ hk)); (case aO => exact (Kd.ur_ HO_5.out)); (case aS => exact (below_size (us_ HB.out))); (case aL => have := LMc32.out; omega); intro v170 w34 ho hb hg hat; rw [← Ny169.out] at ho; replace BK143 := mk_ (blk_grown (g := gb143) (o := .cells #[.int .i64 a1_0, .int .u8 a1_1] 68 (0, 0)) (u_ BK143.out) hg (Kd.R_away HO_5.out (fun _ hk => hk))); replace HB := mk_ (hb); have HO171 := mk_ (ho); clear HO_5; clear ho hb hg hat)))
      go_roundg kj6
      case measure => have := HK1.out; have := HJ6.out; omega
      case rel => exact ⟨(y169), (x6_1), (wrap64 (x7_1 + 1)), (by first | rfl | (simp; done) | (simp [*]; done)), (by first | rfl | (simp; done) | (simp [*]; done)), H', ⟨by have := HK1.out; have := HJ6.out; omega⟩, ⟨Kd.ur_ HO171.out⟩, ⟨u_ BK143.out⟩, ⟨us_ HB.out⟩⟩
     rw [if_pos c28] at H
     have c28b0 : (a1_0 == ((rd_T68 l0 x7_1).f0)) = true := beq_iff_eq.mpr c28
     have c28b1 : (a1_0 != ((rd_T68 l0 x7_1).f0)) = false := bne_eq_false_iff_eq.mpr c28
     clear c28
     by_cases c29 : x5_1.length < 8796093022208
     rotate_left
     ·rw [if_neg c29] at H
      exact absurd H (by simp)
     rw [if_pos c29] at H
     have LMc29 := mk_ c29
     clear c29
     obtain ⟨y165, hy165⟩ : ∃ y_ : List (S68), y_ = (x5_1 ++ [(⟨(rd_T68 l0 x7_1).f0, (rd_T68 l0 x7_1).f1⟩ : S68)]) := ⟨_, rfl⟩
     replace H : (spec_l12Put.l0 kj6 l0 y165 true (wrap64 (x7_1 + 1)) a1_0 a1_1) = some r := by first | (rw [hy165]; with_reducible exact H) | (have H2_ := (Option.bind_some _ _).symm.trans H; rw [hy165]; with_reducible exact H2_) | (have H2_ := (Option.bind_some _ _).symm.trans H; with_reducible exact H2_) | with_reducible exact H | (rw [hy165]; exact H) | exact H
     have Ny165 := mk_ hy165
     clear hy165
     have H' := mk_ H
     clear H
     obtain ⟨_, _, _, _⟩ := cells2_ BK143.out
     have p163 : 0 ≤ (x7_1 : Int) := of_decide_eq_true (by first | (with_reducible assumption) | assumption)
     have q163 : x7_1 < (l0.length : Int) := of_decide_eq_true (by first | (with_reducible assumption) | assumption)
     obtain ⟨ad163, e163, hx163_0, hx163_1⟩ := at_T68 HR0.out x7_1 p163 q163
     cases e163
     replace hx163_0 := (HB.out.cell (lc_ w _ hx163_0)).trans hx163_0
     replace hx163_1 := (HB.out.cell (lc_ w _ hx163_1)).trans hx163_1
     replace p163 := eq_true p163
     replace q163 := eq_true q163
     have p164 : 0 ≤ (x7_1 : Int) := of_decide_eq_true (by first | (with_reducible assumption) | assumption)
     have q164 : x7_1 < (l0.length : Int) := of_decide_eq_true (by first | (with_reducible assumption) | assumption)
     obtain ⟨ad164, e164, hx164_0, hx164_1⟩ := at_T68 HR0.out x7_1 p164 q164
     obtain rfl : ad163 = ad164 := (by injection e164)
     replace hx164_0 := (HB.out.cell (lc_ w _ hx164_0)).trans hx164_0
     replace hx164_1 := (HB.out.cell (lc_ w _ hx164_1)).trans hx164_1
     replace p164 := eq_true p164
     replace q164 := eq_true q164
     go_wp2_with (first | ((with_reducible refine gate_builtin (b := .append) (xs := #[.tmp 39, .tmp 44]) rfl ?_); at_builtin; refine Kd.R_append k68 (w0 := w) w.heap.size rfl (.tmp 39) (.tmp 44) 57 68 (.agg #[(.int .i64 0), (.int .u8 0)]) 16 rfl Try.underlying57 info68 rfl (by decide) (by omega) u5 x5_1 (⟨(rd_T68 l0 x7_1).f0, (rd_T68 l0 x7_1).f1⟩ : S68) [.int .i64 ((rd_T68 l0 x7_1).f0), .int .u8 ((rd_T68 l0 x7_1).f1)] (fun k_ => k_ ≠ gb143) (fun _ => False) rfl rfl ?aP (fun _ hk => hk.elim) ?aF ?aO ?aB ?aS ?aL ?_; (case aP => exact k68_mkM _ _ _ (⟨(rd_T68 l0 x7_1).f0, (rd_T68 l0 x7_1).f1⟩ : S68)); (case aB => exact (us_ HB.out)); (case aF => exact (fun k_ hk => Kd.freshB (g := gb143) (o := .cells #[.int .i64 a1_0, .int .u8 a1_1] 68 (0, 0)) (u_ BK143.out) k_ hk)); (case aO => exact (Kd.ur_ HO_5.out)); (case aS => exact (below_size (us_ HB.out))); (case aL => have := LMc29.out; omega); intro v166 w31 ho hb hg hat; rw [← Ny165.out] at ho; replace BK143 := mk_ (blk_grown (g := gb143) (o := .cells #[.int .i64 a1_0, .int .u8 a1_1] 68 (0, 0)) (u_ BK143.out) hg (Kd.R_away HO_5.out (fun _ hk => hk))); replace HB := mk_ (hb); have HO167 := mk_ (ho); clear HO_5; clear ho hb hg hat))
     repeat (go_quiet (first | ((with_reducible refine gate_builtin (b := .append) (xs := #[.tmp 39, .tmp 44]) rfl ?_); at_builtin; refine Kd.R_append k68 (w0 := w) w.heap.size rfl (.tmp 39) (.tmp 44) 57 68 (.agg #[(.int .i64 0), (.int .u8 0)]) 16 rfl Try.underlying57 info68 rfl (by decide) (by omega) u5 x5_1 (⟨(rd_T68 l0 x7_1).f0, (rd_T68 l0 x7_1).f1⟩ : S68) [.int .i64 ((rd_T68 l0 x7_1).f0), .int .u8 ((rd_T68 l0 x7_1).f1)] (fun k_ => k_ ≠ gb143) (fun _ => False) rfl rfl ?aP (fun _ hk => hk.elim) ?aF ?aO ?aB ?aS ?aL ?_; (case aP => exact k68_mkM _ _ _ (⟨(rd_T68 l0 x7_1).f0, (rd_T68 l0 x7_1).f1⟩ : S68)); (case aB => exact (us_ HB.out)); (case aF => exact (fun k_ hk => Kd.freshB (g := gb143) (o := .cells #[.int .i64 a1_0, .int .u8 a1_1] 68 (0, 0)) (u_ BK143.out) k_ hk)); (case aO => exact (Kd.ur_ HO_5.out)); (case aS => exact (below_size (us_ HB.out))); (case aL => have := LMc29.out; omega); intro v166 w31 ho hb hg hat; rw [← Ny165.out] at ho; replace BK143 := mk_ (blk_grown (g := gb143) (o := .cells #[.int .i64 a1_0, .int .u8 a1_1] 68 (0, 0)) (u_ BK143.out) hg (Kd.R_away HO_5.out (fun _ hk => hk))); replace HB := mk_ (hb); have HO167 := mk_ (ho); clear HO_5; clear ho hb hg hat)); try go_wp2_with (first | ((with_reducible refine gate_builtin (b := .append) (xs := #[.tmp 39, .tmp 44]) rfl ?_); at_builtin; refine Kd.R_append k68 (w0 := w) w.heap.size rfl (.tmp 39) (.tmp 44) 57 68 (.agg #[(.int .i64 0), (.int .u8 0)]) 16 rfl Try.underlying57 info68 rfl (by decide) (by omega) u5 x5_1 (⟨(rd_T68 l0 x7_1).f0, (rd_T68 l0 x7_1).f1⟩ : S68) [.int .i64 ((rd_T68 l0 x7_1).f0), .int .u8 ((rd_T68 l0 x7_1).f1)] (fun k_ => k_ ≠ gb143) (fun _ => False) rfl rfl ?aP (fun _ hk => hk.elim) ?aF ?aO ?aB ?aS ?aL ?_; (case aP => exact k68_mkM _ _ _ (⟨(rd_T68 l0 x7_1).f0, (rd_T68 l0 x7_1).f1⟩ : S68)); (case aB => exact (us_ HB.out)); (case aF => exact (fun k_ hk => Kd.freshB (g := gb143) (o := .cells #[.int .i64 a1_0, .int .u8 a1_1] 68 (0, 0)) (u_ BK143.out) k_ hk)); (case aO => exact (Kd.ur_ HO_5.out)); (case aS => exact (below_size (us_ HB.out))); (case aL => have := LMc29.out; omega); intro v166 w31 ho hb hg hat; rw [← Ny165.out] at ho; replace BK143 := mk_ (blk_grown (g := gb143) (o := .cells #[.int .i64 a1_0, .int .u8 a1_1] 68 (0, 0)) (u_ BK143.out) hg (Kd.R_away HO_5.out (fun _ hk => hk))); replace HB := mk_ (hb); have HO167 := mk_ (ho); clear HO_5; clear ho hb hg hat)))
     go_roundg kj6
     case measure => have := HK1.out; have := HJ6.out; omega
     case rel => exact ⟨(y165), (true), (wrap64 (x7_1 + 1)), (by first | rfl | (simp; done) | (simp [*]; done)), (by first | rfl | (simp; done) | (simp [*]; done)), H', ⟨by have := HK1.out; have := HJ6.out; omega⟩, ⟨Kd.ur_ HO167.out⟩, ⟨u_ BK143.out⟩, ⟨us_ HB.out⟩⟩

end Go.Proofs.Ytkkibccnpkbbjab.MFnEarRanges
