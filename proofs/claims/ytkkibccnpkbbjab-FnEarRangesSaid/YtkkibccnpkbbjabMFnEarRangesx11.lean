/- Functions that the law FnEarRanges reaches, each with the proof that the machine's call comes to just its answer; no conditions but those that each theorem states. Printed by a program of this session over the kit's print. -/
import Derived.Test.YtkkibccnpkbbjabMFnEarRangesx0
import Derived.Test.YtkkibccnpkbbjabMFnEarRangesx4
namespace Go.Proofs.Ytkkibccnpkbbjab.MFnEarRanges
open Go.RowKit Go.Proofs.YtkkibccnpkbbjabV.PrintWords Go.Proofs.YtkkibccnpkbbjabV.PrintLast Go.Proofs.YtkkibccnpkbbjabV.PrintMore
attribute [local go_sem] max2_int min2_int max_two min_two max_three min_three max_four min_four   -- for this text's walks alone
set_option linter.unusedVariables false
set_option linter.unusedSimpArgs false

/-! ### spec_EarRanges: function 37 -/
mutual
def spec_EarRanges.l0 : Nat → List (S66) → Int → Int → Int → List Int → List (S68) → Option ((List (S66)))
 | 0, _, _, _, _, _, _ => none
 | k + 1, x3, x4, x334000, x334001, x334002, x334003 => if x4 < (x334003.length : Int) then (if (wrap64 ((x3.length : Int) - 1)) ≥ 0 then (if 0 ≤ (wrap64 ((x3.length : Int) - 1)) then (if (wrap64 ((x3.length : Int) - 1)) < (x3.length : Int) then (if 0 ≤ x4 then (spec_EarRanges.j1 k x3 x4 (wrap64 ((x3.length : Int) - 1)) (((rd_T66 x3 (wrap64 ((x3.length : Int) - 1))).f1) == ((rd_T68 x334003 x4).f0)) x334000 x334001 x334002 x334003) else (none)) else (none)) else (none)) else (spec_EarRanges.j1 k x3 x4 (wrap64 ((x3.length : Int) - 1)) false x334000 x334001 x334002 x334003)) else (some x3)
def spec_EarRanges.j1 : Nat → List (S66) → Int → Int → Bool → Int → Int → List Int → List (S68) → Option ((List (S66)))
 | 0, _, _, _, _, _, _, _, _ => none
 | k + 1, x3, x4, x5, x36, x334000, x334001, x334002, x334003 => if x36 = true then (if 0 ≤ x5 then (if x5 < (x3.length : Int) then (spec_EarRanges.l0 k (x3.set (x5 : Int).toNat (⟨(rd_T66 x3 x5).f0, wrap64 (((rd_T66 x3 x5).f1) + 1)⟩ : S66)) (wrap64 (x4 + 1)) x334000 x334001 x334002 x334003) else (none)) else (none)) else (if (x3.length : Int) < 2 then (if 0 ≤ x4 then (if x4 < (x334003.length : Int) then (if x3.length < 8796093022208 then (spec_EarRanges.l0 k (x3 ++ [(⟨(rd_T68 x334003 x4).f0, wrap64 (((rd_T68 x334003 x4).f0) + 1)⟩ : S66)]) (wrap64 (x4 + 1)) x334000 x334001 x334002 x334003) else (none)) else (none)) else (none)) else (spec_EarRanges.l0 k x3 (wrap64 (x4 + 1)) x334000 x334001 x334002 x334003))
end
def spec_EarRanges.f (k : Nat) (a0_0 : Int) (a0_1 : Int) (l0_2 : List Int) (l0_3 : List (S68)) : Option ((List (S66))) := (some (([] : List (S66)) : List (S66))).bind fun y334 => ((spec_EarOk.f k a0_0 a0_1 l0_2 l0_3).bind fun t337 => (if t337 = true then (spec_EarRanges.l0 k y334 0 a0_0 a0_1 l0_2 l0_3) else (some y334)))
theorem spec_EarRanges.mono_l : ∀ k, (∀ y0 y1 y2 y3 y4 y5, LeO (spec_EarRanges.l0 k y0 y1 y2 y3 y4 y5) (spec_EarRanges.l0 (k + 1) y0 y1 y2 y3 y4 y5)) ∧ (∀ y0 y1 y2 y3 y4 y5 y6 y7, LeO (spec_EarRanges.j1 k y0 y1 y2 y3 y4 y5 y6 y7) (spec_EarRanges.j1 (k + 1) y0 y1 y2 y3 y4 y5 y6 y7))
 | 0 => ⟨fun _ _ _ _ _ _ r h => by simp [spec_EarRanges.l0] at h, fun _ _ _ _ _ _ _ _ r h => by simp [spec_EarRanges.j1] at h⟩
 | k + 1 => by
  obtain ⟨ih0, ih1⟩ := spec_EarRanges.mono_l k
  refine ⟨?_, ?_⟩
  ·intro y0 y1 y2 y3 y4 y5
   unfold spec_EarRanges.l0
   repeat' first
   | (with_reducible exact ih0 _ _ _ _ _ _)
   | (with_reducible exact ih1 _ _ _ _ _ _ _ _)
   | (with_reducible exact spec_EarOk.mono _ _ _ _ _)
   | (with_reducible exact LeO.refl _)
   | (with_reducible exact LeO.none _)
   | (with_reducible refine LeO.ite ?_ ?_)
   | (with_reducible refine LeO.bind ?_ (fun _ => ?_))
   | exact ih0 _ _ _ _ _ _
   | exact ih1 _ _ _ _ _ _ _ _
   | exact spec_EarOk.mono _ _ _ _ _
   | exact LeO.none _
   | refine LeO.ite ?_ ?_
   | refine LeO.bind ?_ (fun _ => ?_)
  ·intro y0 y1 y2 y3 y4 y5 y6 y7
   unfold spec_EarRanges.j1
   repeat' first
   | (with_reducible exact ih0 _ _ _ _ _ _)
   | (with_reducible exact ih1 _ _ _ _ _ _ _ _)
   | (with_reducible exact spec_EarOk.mono _ _ _ _ _)
   | (with_reducible exact LeO.refl _)
   | (with_reducible exact LeO.none _)
   | (with_reducible refine LeO.ite ?_ ?_)
   | (with_reducible refine LeO.bind ?_ (fun _ => ?_))
   | exact ih0 _ _ _ _ _ _
   | exact ih1 _ _ _ _ _ _ _ _
   | exact spec_EarOk.mono _ _ _ _ _
   | exact LeO.none _
   | refine LeO.ite ?_ ?_
   | refine LeO.bind ?_ (fun _ => ?_)
theorem spec_EarRanges.mono : ∀ a0 a1 a2 a3 k, LeO (spec_EarRanges.f k a0 a1 a2 a3) (spec_EarRanges.f (k + 1) a0 a1 a2 a3) := by
 intro a0 a1 a2 a3 k
 obtain ⟨ih0, ih1⟩ := spec_EarRanges.mono_l k
 unfold spec_EarRanges.f
 repeat' first
   | (with_reducible exact ih0 _ _ _ _ _ _)
   | (with_reducible exact ih1 _ _ _ _ _ _ _ _)
   | (with_reducible exact spec_EarOk.mono _ _ _ _ _)
   | (with_reducible exact LeO.refl _)
   | (with_reducible exact LeO.none _)
   | (with_reducible refine LeO.ite ?_ ?_)
   | (with_reducible refine LeO.bind ?_ (fun _ => ?_))
   | exact ih0 _ _ _ _ _ _
   | exact ih1 _ _ _ _ _ _ _ _
   | exact spec_EarOk.mono _ _ _ _ _
   | exact LeO.none _
   | refine LeO.ite ?_ ?_
   | refine LeO.bind ?_ (fun _ => ?_)
def spec_EarRanges.T8 : Bool × List (List Nat × List Nat) := (true, [([], []), ([0], [0]), ([1], [1]), ([2], [2]), ([2], [2]), ([3, 4, 2], [2, 3, 4]), ([5, 2], [2, 5]), ([6, 2], [2, 6]), ([2], [2]), ([8, 2], [2, 8]), ([2], [2]), ([9, 10, 2], [2, 9, 10]), ([11, 2], [2, 11]), ([12, 2], [2, 12]), ([7, 13, 2], [2, 7, 13]), ([2, 14], [2, 14])])
def spec_EarRanges.B8 : List Nat := [0, 1, 3, 7, 7, 31, 63, 127, 7, 263, 7, 1799, 3847, 7943, 16383, 32767]
theorem spec_EarRanges.tab8 : rtab .any (opsOf Try.f37 8) = spec_EarRanges.T8 := by kernel_rfl
theorem spec_EarRanges.bits8 : waitsOk spec_EarRanges.T8.2 spec_EarRanges.B8 = true := by kernel_rfl
def spec_EarRanges.T11 : Bool × List (List Nat × List Nat) := (true, [([], []), ([], []), ([1], [1]), ([], []), ([2, 3], [2, 3]), ([4], [4]), ([5], [5]), ([], []), ([7], [7]), ([], []), ([8, 9], [8, 9]), ([10], [10]), ([11], [11]), ([12], [12]), ([6, 13], [6, 13]), ([14], [14]), ([0, 15], [0, 15]), ([16, 16, 0, 1, 2, 3, 4, 5, 6, 7, 8, 9, 10, 11, 12, 13, 14, 15, 16], [0, 16])])
def spec_EarRanges.B11 : List Nat := [0, 0, 2, 0, 14, 30, 62, 0, 128, 0, 896, 1920, 3968, 8064, 16382, 32766, 65535, 131071]
theorem spec_EarRanges.tab11 : rtab .any (opsOf Try.f37 11) = spec_EarRanges.T11 := by kernel_rfl
theorem spec_EarRanges.bits11 : waitsOk spec_EarRanges.T11.2 spec_EarRanges.B11 = true := by kernel_rfl
set_option maxHeartbeats 8000000 in
set_option maxRecDepth 100000 in
theorem spec_EarRanges.calls (k : Nat) (a0_0 : Int) (a0_1 : Int) (A0_2 : Option Addr) (c0_2 : Nat) (l0_2 : List Int) (A0_3 : Option Addr) (c0_3 : Nat) (l0_3 : List (S68)) (r : List (S66)) (w : World) (hr0_2 : Kd.C (Kd.int .u8) w A0_2 l0_2.length l0_2) (hc0_2 : l0_2.length ≤ c0_2) (hr0_3 : Kd.C k68 w A0_3 l0_3.length l0_3) (hc0_3 : l0_3.length ≤ c0_3) (h : spec_EarRanges.f k a0_0 a0_1 l0_2 l0_3 = some r) :
  Calls Try.prog 37 #[.agg #[.int .i64 a0_0, .int .i64 a0_1, .slice A0_2 l0_2.length c0_2, .slice A0_3 l0_3.length c0_3]] w fun e w' => ∃ v0_ : Value, e = .returned (v0_) ∧ Kd.R k66 66 w' w.heap.size (fun _ => True) v0_ r ∧ Below w.heap.size w w' := by
 have hu59 := Try.underlying59
 have hu66 := Try.underlying66
 have HR0_2 := mk_ hr0_2
 have HC0_2 := mk_ hc0_2
 clear hr0_2 hc0_2
 have HR0_3 := mk_ hr0_3
 have HC0_3 := mk_ hc0_3
 clear hr0_3 hc0_3
 have HB := mk_ (Below.refl w.heap.size w)
 have H := h
 unfold spec_EarRanges.f at H
 clear h
 obtain ⟨y334, hy334⟩ : ∃ y_ : List (S66), y_ = (([] : List (S66))) := ⟨_, rfl⟩
 replace H : ((spec_EarOk.f k a0_0 a0_1 l0_2 l0_3).bind fun t337 => (if t337 = true then (spec_EarRanges.l0 k y334 0 a0_0 a0_1 l0_2 l0_3) else (some y334))) = some r := by first | (rw [hy334]; with_reducible exact H) | (have H2_ := (Option.bind_some _ _).symm.trans H; rw [hy334]; with_reducible exact H2_) | (have H2_ := (Option.bind_some _ _).symm.trans H; with_reducible exact H2_) | with_reducible exact H | (rw [hy334]; exact H) | exact H
 have Ny334 := mk_ hy334
 clear hy334
 replace H := Option.bind_eq_some_iff.mp H
 obtain ⟨t337, A20, H⟩ := H
 replace H : (if t337 = true then (spec_EarRanges.l0 k y334 0 a0_0 a0_1 l0_2 l0_3) else (some y334)) = some r := H
 have A2 := mk_ A20
 clear A20
 by_cases c3 : t337 = true
 rotate_left
 ·replace c3 := Bool.eq_false_iff.mpr c3
  subst c3
  have H1 : (some y334) = some r := by rw [if_neg (show ¬ (false = true) by decide)] at H; exact H
  clear H
  have H := H1
  clear H1
  obtain rfl := Option.some.inj H
  go_enter Try.func37, Try.ntmps37
  go_wp2_with (first | ((with_reducible refine gate_dst (N := 1) rfl ?_); refine box_event ?hg (N := 1) ?hd (cs := #[.int .i64 a0_0, .int .i64 a0_1, .slice A0_2 l0_2.length c0_2, .slice A0_3 l0_3.length c0_3]) (t := 59) ?hr ?_; (case hd => rfl); (case hg => rfl); (case hr => first | (go_simp; done) | (go_simp; rfl)); intro gb333 hg w34 hbox hb; have n0_ := mk_ (below_step (ub_ HB.out) hb); have BK333 := mk_ (hbox); have GW333 := mk_ ((by rw [hg]; exact (below_size (ub_ HB.out)) : w.heap.size ≤ gb333)); have GE333 := ge_ ((by rw [hg]; exact (below_size (ub_ HB.out)) : w.heap.size ≤ gb333)); replace HB := n0_; clear n0_; clear hb hbox hg) | ((with_reducible refine gate_dst (N := 6) rfl ?_); refine Kd.R_lit k66 _ 66 ?hg (N := 6) ?hd (xs := ([] : List (S66))) (inner := []) (ok := fun _ => True) (okp := fun _ => True) ?hr ?hp (fun _ hk => hk) trivial (Below.refl _ _) (Nat.le_refl _) (by simp) ?_; (case hd => rfl); (case hg => rfl); (case hr => first | (go_simp; done) | (go_simp; rfl)); (case hp => exact (Reps.none _ _)); intro v335 w35 ho36 hb hg_ hnew_; clear hg_ hnew_; (first | rw [← Ny334.out] at ho36 | (simp only [Int.reduceToNat] at ho36; rw [← Ny334.out] at ho36)); have HO336 := mk_ (Kd.R_lower ho36 (below_size (us_ HB.out))); replace BK333 := mk_ (blk_below (u_ BK333.out) hb); replace HB := mk_ (below_step (us_ HB.out) hb); clear hb ho36; obtain ⟨_, _, _, _, _, _, _, _⟩ := cells4_ BK333.out) | ((with_reducible refine gate_callee (f := 33) rfl ?_); refine goesL_ (some 8) rfl rfl Try.func33 (by kernel_rfl) rfl #[.agg #[.int .i64 a0_0, .int .i64 a0_1, .slice A0_2 l0_2.length c0_2, .slice A0_3 l0_3.length c0_3]] rfl (by (try simp only [lm_, lo_, ln_]); try rfl) ?_; (with_reducible refine (spec_EarOk.calls k a0_0 a0_1 _ _ l0_2 _ _ l0_3 false _ ?side1 ?side2 ?side3 ?side4 A2.out).mono ?_); (case side1 => repeat (first | exact (Kd.C_below HR0_2.out HB.out) | (with_reducible refine Kd.C_alloc ?_ _) | (with_reducible refine Kd.C_drewN ?_ _) | (with_reducible refine Kd.C_drew ?_))); (case side2 => exact HC0_2.out); (case side3 => repeat (first | exact (Kd.C_below HR0_3.out HB.out) | (with_reducible refine Kd.C_alloc ?_ _) | (with_reducible refine Kd.C_drewN ?_ _) | (with_reducible refine Kd.C_drew ?_))); (case side4 => exact HC0_3.out); rintro e w38 ⟨rfl, hb⟩; refine ⟨_, rfl, ?_⟩; replace HO336 := mk_ (Kd.R_below (Kd.ur_ HO336.out) hb); replace BK333 := mk_ (blk_below (u_ BK333.out) hb); replace HB := mk_ (below_step (us_ HB.out) hb)))
  go_ret
  exact ⟨_, by first | rfl | (simp [errW_none, errW_some] <;> rfl) | (simp [*, errW_none, errW_some] <;> rfl), by (with_reducible repeat (first | apply Kd.R_alloc | apply Kd.R_drewN | apply Kd.R_drew)); exact HO336.out, us_ HB.out⟩
 subst c3
 have H1 : (spec_EarRanges.l0 k y334 0 a0_0 a0_1 l0_2 l0_3) = some r := by rw [if_pos rfl] at H; exact H
 clear H
 have H := H1
 clear H1
 have H' := mk_ H
 clear H
 go_enter Try.func37, Try.ntmps37
 go_wp2_with (first | ((with_reducible refine gate_dst (N := 1) rfl ?_); refine box_event ?hg (N := 1) ?hd (cs := #[.int .i64 a0_0, .int .i64 a0_1, .slice A0_2 l0_2.length c0_2, .slice A0_3 l0_3.length c0_3]) (t := 59) ?hr ?_; (case hd => rfl); (case hg => rfl); (case hr => first | (go_simp; done) | (go_simp; rfl)); intro gb333 hg w4 hbox hb; have n0_ := mk_ (below_step (ub_ HB.out) hb); have BK333 := mk_ (hbox); have GW333 := mk_ ((by rw [hg]; exact (below_size (ub_ HB.out)) : w.heap.size ≤ gb333)); have GE333 := ge_ ((by rw [hg]; exact (below_size (ub_ HB.out)) : w.heap.size ≤ gb333)); replace HB := n0_; clear n0_; clear hb hbox hg) | ((with_reducible refine gate_dst (N := 6) rfl ?_); refine Kd.R_lit k66 _ 66 ?hg (N := 6) ?hd (xs := ([] : List (S66))) (inner := []) (ok := fun _ => True) (okp := fun _ => True) ?hr ?hp (fun _ hk => hk) trivial (Below.refl _ _) (Nat.le_refl _) (by simp) ?_; (case hd => rfl); (case hg => rfl); (case hr => first | (go_simp; done) | (go_simp; rfl)); (case hp => exact (Reps.none _ _)); intro v335 w5 ho6 hb hg_ hnew_; clear hg_ hnew_; (first | rw [← Ny334.out] at ho6 | (simp only [Int.reduceToNat] at ho6; rw [← Ny334.out] at ho6)); have HO336 := mk_ (Kd.R_lower ho6 (below_size (us_ HB.out))); replace BK333 := mk_ (blk_below (u_ BK333.out) hb); replace HB := mk_ (below_step (us_ HB.out) hb); clear hb ho6; obtain ⟨hcz7_0, hcz7_1, hcz7_2, hcz7_3, hfz7_0, hfz7_1, hfz7_2, hfz7_3⟩ := cells4_ BK333.out) | ((with_reducible refine gate_callee (f := 33) rfl ?_); refine goesL_ (some 8) rfl rfl Try.func33 (by kernel_rfl) rfl #[.agg #[.int .i64 a0_0, .int .i64 a0_1, .slice A0_2 l0_2.length c0_2, .slice A0_3 l0_3.length c0_3]] rfl (by (try simp only [lm_, lo_, ln_]); try rfl) ?_; (with_reducible refine (spec_EarOk.calls k a0_0 a0_1 _ _ l0_2 _ _ l0_3 true _ ?side1 ?side2 ?side3 ?side4 A2.out).mono ?_); (case side1 => repeat (first | exact (Kd.C_below HR0_2.out HB.out) | (with_reducible refine Kd.C_alloc ?_ _) | (with_reducible refine Kd.C_drewN ?_ _) | (with_reducible refine Kd.C_drew ?_))); (case side2 => exact HC0_2.out); (case side3 => repeat (first | exact (Kd.C_below HR0_3.out HB.out) | (with_reducible refine Kd.C_alloc ?_ _) | (with_reducible refine Kd.C_drewN ?_ _) | (with_reducible refine Kd.C_drew ?_))); (case side4 => exact HC0_3.out); rintro e w8 ⟨rfl, hb⟩; refine ⟨_, rfl, ?_⟩; replace HO336 := mk_ (Kd.R_below (Kd.ur_ HO336.out) hb); replace BK333 := mk_ (blk_below (u_ BK333.out) hb); replace HB := mk_ (below_step (us_ HB.out) hb)))
 go_loopg [3, 4] k (fun kq v3 v4 w' => ∃ (x3_1 : List (S66)) (x4_1 : Int), v4 = .int .i64 x4_1 ∧ Aside0 (spec_EarRanges.l0 kq x3_1 x4_1 a0_0 a0_1 l0_2 l0_3 = some r) ∧ Aside0 (kq ≤ k) ∧ Aside0 (Kd.R k66 66 w' w.heap.size (fun _ => True) v3 x3_1) ∧ Aside0 (w'.heap[gb333]? = some (.cells #[.int .i64 a0_0, .int .i64 a0_1, (.slice A0_2 l0_2.length c0_2), (.slice A0_3 l0_3.length c0_3)] 59 (0, 0))) ∧ Aside0 (Below w.heap.size w w'))
 case atStart => exact ⟨(y334), (0), (by first | rfl | (simp; done) | (simp [*]; done)), H', ⟨Nat.le_refl _⟩, ⟨Kd.ur_ HO336.out⟩, ⟨u_ BK333.out⟩, ⟨us_ HB.out⟩⟩
 case round =>
  clear H'
  try clear p2
  try clear c3
  try clear hcz7_0
  try clear hcz7_1
  try clear hcz7_2
  try clear hcz7_3
  try clear hfz7_0
  try clear hfz7_1
  try clear hfz7_2
  try clear hfz7_3
  obtain ⟨x3_1, x4_1, rfl, HA, HK1, HO_3, BK333, HB⟩ := hrel
  cases gk with
  | zero => exact absurd HA.out (by simp [spec_EarRanges.l0])
  | succ k1 =>
   have H := HA.out
   clear HA
   simp only [spec_EarRanges.l0] at H
   by_cases c9 : x4_1 < (l0_3.length : Int)
   rotate_left
   ·rw [if_neg c9] at H
    have c9b0 : decide (x4_1 < (l0_3.length : Int)) = false := decide_eq_false c9
    clear c9
    obtain rfl := Option.some.inj H
    obtain ⟨_, _, _, _, _, _, _, _⟩ := cells4_ BK333.out
    go_wp2
    go_ret
    exact ⟨_, by first | rfl | (simp [errW_none, errW_some] <;> rfl) | (simp [*, errW_none, errW_some] <;> rfl), by (with_reducible repeat (first | apply Kd.R_alloc | apply Kd.R_drewN | apply Kd.R_drew)); exact HO_3.out, us_ HB.out⟩
   rw [if_pos c9] at H
   have c9b0 : decide (x4_1 < (l0_3.length : Int)) = true := decide_eq_true c9
   clear c9
   have HC10 := mk_ H
   clear H
   obtain ⟨hcz11_0, hcz11_1, hcz11_2, hcz11_3, hfz11_0, hfz11_1, hfz11_2, hfz11_3⟩ := cells4_ BK333.out
   obtain ⟨Ao12, co12, eo12⟩ := Kd.R_slice HO_3.out
   subst eo12
   go_upto_region 8 with (fail)
   go_cut [36] (fun v36 wc => ∃ (kq : Nat) (x36_9 : Bool), v36 = .bool x36_9 ∧ Aside0 (spec_EarRanges.j1 kq x3_1 x4_1 (wrap64 ((x3_1.length : Int) - 1)) x36_9 a0_0 a0_1 l0_2 l0_3 = some r) ∧ Aside0 (kq ≤ k1) ∧ Aside0 (Kd.R k66 66 wc w.heap.size (fun _ => True) (.slice Ao12 x3_1.length co12) x3_1) ∧ Aside0 (wc.heap[gb333]? = some (.cells #[.int .i64 a0_0, .int .i64 a0_1, (.slice A0_2 l0_2.length c0_2), (.slice A0_3 l0_3.length c0_3)] 59 (0, 0))) ∧ Aside0 (Below w.heap.size w wc))
   case first =>
    have H := HC10.out
    clear HC10
    by_cases c13 : (wrap64 ((x3_1.length : Int) - 1)) ≥ 0
    rotate_left
    ·rw [if_neg c13] at H
     have c13b0 : decide (0 ≤ (wrap64 ((x3_1.length : Int) - 1))) = false := decide_eq_false c13
     clear c13
     (first | rw [c13b0] | (simp only [i64_w, i32_w]; rw [c13b0]) | skip)
     have H' := mk_ H
     clear H
     try go_wp2
     have n0_ := mk_ (Kd.R_drew HO_3.out)
     have n1_ := mk_ (blk_drew BK333.out)
     have n2_ := mk_ (below_drew1 HB.out)
     clear HO_3
     clear BK333
     clear HB
     have HO_3 := n0_
     have BK333 := n1_
     have HB := n2_
     clear n0_ n1_ n2_
     refine start_ (n := 16) (S := fun w' => True) (ds := []) #[F_, F_, F_, F_, F_, F_, F_, F_, F_, F_, F_, F_, F_, F_, F_, F_] (by kernel_rfl) rfl rfl trivial (fun hHeld => ?_); refine with_tabW spec_EarRanges.tab8 spec_EarRanges.bits8 (fun HT_ HW_ => ?_)
     generalize wr.drew = w19 at HO_3 BK333 HB hHeld ⊢
     refine pure_ (i := 0) (N := some 21) (v := ?_) (a' := ?_) #[T_, F_, F_, F_, F_, F_, F_, F_, F_, F_, F_, F_, F_, F_, F_, F_] rfl rfl (any_of HT_.out (by kernel_rfl)) (fun _ _ _ h => h) (Or.inl ⟨by rfl, ?_⟩) ?_ ?_
     rotate_left
     ·intro w'
      go_simp
      with_reducible rfl
     rotate_left
     ·simp only [Act.put, la_, lz_, ls_, i64_w, i32_w]
      rfl
     refine pure_ (i := 1) (N := some 22) (v := ?_) (a' := ?_) #[T_, T_, F_, F_, F_, F_, F_, F_, F_, F_, F_, F_, F_, F_, F_, F_] rfl rfl (any_of HT_.out (by kernel_rfl)) (fun _ _ _ h => h) (Or.inl ⟨by rfl, ?_⟩) ?_ ?_
     rotate_left
     ·intro w'
      go_simp
      with_reducible rfl
     rotate_left
     ·simp only [Act.put, la_, lz_, ls_, i64_w, i32_w]
      rfl
     refine pure_ (i := 2) (N := some 23) (v := ?_) (a' := ?_) #[T_, T_, T_, F_, F_, F_, F_, F_, F_, F_, F_, F_, F_, F_, F_, F_] rfl rfl (any_of HT_.out (by kernel_rfl)) (fun _ _ _ h => h) (Or.inl ⟨by rfl, ?_⟩) ?_ ?_
     rotate_left
     ·intro w'
      go_simp
      with_reducible rfl
     rotate_left
     ·simp only [Act.put, la_, lz_, ls_, i64_w, i32_w]
      rfl
     refine pure_ (i := 3) (N := some 24) (v := undef) (a' := ?_) #[T_, T_, T_, T_, F_, F_, F_, F_, F_, F_, F_, F_, F_, F_, F_, F_] rfl rfl (any_of HT_.out (by kernel_rfl)) (fun _ _ _ h => h) (Or.inr ⟨by rfl, rfl⟩) ?_ ?_
     rotate_left
     ·simp only [Act.put, la_, lz_, ls_, i64_w, i32_w]
      rfl
     refine pure_ (i := 4) (N := some 25) (v := undef) (a' := ?_) #[T_, T_, T_, T_, T_, F_, F_, F_, F_, F_, F_, F_, F_, F_, F_, F_] rfl rfl (any_of HT_.out (by kernel_rfl)) (fun _ _ _ h => h) (Or.inr ⟨by rfl, rfl⟩) ?_ ?_
     rotate_left
     ·simp only [Act.put, la_, lz_, ls_, i64_w, i32_w]
      rfl
     refine pure_ (i := 5) (N := some 26) (v := undef) (a' := ?_) #[T_, T_, T_, T_, T_, T_, F_, F_, F_, F_, F_, F_, F_, F_, F_, F_] rfl rfl (any_of HT_.out (by kernel_rfl)) (fun _ _ _ h => h) (Or.inr ⟨by rfl, rfl⟩) ?_ ?_
     rotate_left
     ·simp only [Act.put, la_, lz_, ls_, i64_w, i32_w]
      rfl
     refine pure_ (i := 6) (N := some 27) (v := undef) (a' := ?_) #[T_, T_, T_, T_, T_, T_, T_, F_, F_, F_, F_, F_, F_, F_, F_, F_] rfl rfl (any_of HT_.out (by kernel_rfl)) (fun _ _ _ h => h) (Or.inr ⟨by rfl, rfl⟩) ?_ ?_
     rotate_left
     ·simp only [Act.put, la_, lz_, ls_, i64_w, i32_w]
      rfl
     refine pure_ (i := 7) (N := some 28) (v := undef) (a' := ?_) #[T_, T_, T_, T_, T_, T_, T_, T_, F_, F_, F_, F_, F_, F_, F_, F_] rfl rfl (any_of HT_.out (by kernel_rfl)) (fun _ _ _ h => h) (Or.inr ⟨by rfl, rfl⟩) ?_ ?_
     rotate_left
     ·simp only [Act.put, la_, lz_, ls_, i64_w, i32_w]
      rfl
     refine pure_ (i := 8) (N := some 29) (v := undef) (a' := ?_) #[T_, T_, T_, T_, T_, T_, T_, T_, T_, F_, F_, F_, F_, F_, F_, F_] rfl rfl (any_of HT_.out (by kernel_rfl)) (fun _ _ _ h => h) (Or.inr ⟨by rfl, rfl⟩) ?_ ?_
     rotate_left
     ·simp only [Act.put, la_, lz_, ls_, i64_w, i32_w]
      rfl
     refine pure_ (i := 9) (N := some 30) (v := undef) (a' := ?_) #[T_, T_, T_, T_, T_, T_, T_, T_, T_, T_, F_, F_, F_, F_, F_, F_] rfl rfl (any_of HT_.out (by kernel_rfl)) (fun _ _ _ h => h) (Or.inr ⟨by rfl, rfl⟩) ?_ ?_
     rotate_left
     ·simp only [Act.put, la_, lz_, ls_, i64_w, i32_w]
      rfl
     refine pure_ (i := 10) (N := some 31) (v := undef) (a' := ?_) #[T_, T_, T_, T_, T_, T_, T_, T_, T_, T_, T_, F_, F_, F_, F_, F_] rfl rfl (any_of HT_.out (by kernel_rfl)) (fun _ _ _ h => h) (Or.inr ⟨by rfl, rfl⟩) ?_ ?_
     rotate_left
     ·simp only [Act.put, la_, lz_, ls_, i64_w, i32_w]
      rfl
     refine pure_ (i := 11) (N := some 32) (v := undef) (a' := ?_) #[T_, T_, T_, T_, T_, T_, T_, T_, T_, T_, T_, T_, F_, F_, F_, F_] rfl rfl (any_of HT_.out (by kernel_rfl)) (fun _ _ _ h => h) (Or.inr ⟨by rfl, rfl⟩) ?_ ?_
     rotate_left
     ·simp only [Act.put, la_, lz_, ls_, i64_w, i32_w]
      rfl
     refine pure_ (i := 12) (N := some 33) (v := undef) (a' := ?_) #[T_, T_, T_, T_, T_, T_, T_, T_, T_, T_, T_, T_, T_, F_, F_, F_] rfl rfl (any_of HT_.out (by kernel_rfl)) (fun _ _ _ h => h) (Or.inr ⟨by rfl, rfl⟩) ?_ ?_
     rotate_left
     ·simp only [Act.put, la_, lz_, ls_, i64_w, i32_w]
      rfl
     refine pure_ (i := 13) (N := some 34) (v := undef) (a' := ?_) #[T_, T_, T_, T_, T_, T_, T_, T_, T_, T_, T_, T_, T_, T_, F_, F_] rfl rfl (any_of HT_.out (by kernel_rfl)) (fun _ _ _ h => h) (Or.inr ⟨by rfl, rfl⟩) ?_ ?_
     rotate_left
     ·simp only [Act.put, la_, lz_, ls_, i64_w, i32_w]
      rfl
     refine pure_ (i := 14) (N := some 35) (v := undef) (a' := ?_) #[T_, T_, T_, T_, T_, T_, T_, T_, T_, T_, T_, T_, T_, T_, T_, F_] rfl rfl (any_of HT_.out (by kernel_rfl)) (fun _ _ _ h => h) (Or.inr ⟨by rfl, rfl⟩) ?_ ?_
     rotate_left
     ·simp only [Act.put, la_, lz_, ls_, i64_w, i32_w]
      rfl
     refine pure_ (i := 15) (N := some 36) (v := ?_) (a' := ?_) #[T_, T_, T_, T_, T_, T_, T_, T_, T_, T_, T_, T_, T_, T_, T_, T_] rfl rfl (any_of HT_.out (by kernel_rfl)) (fun _ _ _ h => h) (Or.inl ⟨by rfl, ?_⟩) ?_ ?_
     rotate_left
     ·intro w'
      go_simp
      with_reducible rfl
     rotate_left
     ·simp only [Act.put, la_, lz_, ls_, i64_w, i32_w]
      rfl
     refine done_ (done_of HT_.out (by kernel_rfl)) ?_
     try go_wp2
     go_meet
     case rel => exact ⟨_, (false), (by first | rfl | (simp; done) | (simp [*]; done)), H', ⟨by have := HK1.out; first | omega | exact Nat.le_refl _⟩, ⟨Kd.ur_ HO_3.out⟩, ⟨u_ BK333.out⟩, ⟨us_ HB.out⟩⟩
    rw [if_pos c13] at H
    have c13b0 : decide (0 ≤ (wrap64 ((x3_1.length : Int) - 1))) = true := decide_eq_true c13
    clear c13
    (first | rw [c13b0] | (simp only [i64_w, i32_w]; rw [c13b0]) | skip)
    obtain ⟨ji14, hji14⟩ : ∃ j_ : Int, (wrap64 ((x3_1.length : Int) - 1)) = j_ := ⟨_, rfl⟩
    replace H : (if 0 ≤ (ji14) then (if (ji14) < (x3_1.length : Int) then (if 0 ≤ x4_1 then (spec_EarRanges.j1 k1 x3_1 x4_1 ji14 (((rd_T66 x3_1 (ji14)).f1) == ((rd_T68 l0_3 x4_1).f0)) a0_0 a0_1 l0_2 l0_3) else (none)) else (none)) else (none)) = some r := by first | (rw [hji14] at H; exact H) | (simp only [hji14] at H ⊢; exact H)
    (try rw [hji14] at c13b0)
    have hji14w : (IntKind.i64.wrap ((x3_1.length : Int) - 1)) = ji14 := (i64_w _).trans hji14
    by_cases c15 : 0 ≤ (ji14)
    rotate_left
    ·rw [if_neg c15] at H
     exact absurd H (by simp)
    rw [if_pos c15] at H
    have c15b0 : decide (0 ≤ (ji14)) = true := decide_eq_true c15
    clear c15
    by_cases c16 : (ji14) < (x3_1.length : Int)
    rotate_left
    ·rw [if_neg c16] at H
     exact absurd H (by simp)
    rw [if_pos c16] at H
    have c16b0 : decide ((ji14) < (x3_1.length : Int)) = true := decide_eq_true c16
    clear c16
    by_cases c17 : 0 ≤ x4_1
    rotate_left
    ·rw [if_neg c17] at H
     exact absurd H (by simp)
    rw [if_pos c17] at H
    have c17b0 : decide (0 ≤ x4_1) = true := decide_eq_true c17
    clear c17
    have H' := mk_ H
    clear H
    try go_wp2
    have n0_ := mk_ (Kd.R_drew HO_3.out)
    have n1_ := mk_ (blk_drew BK333.out)
    have n2_ := mk_ (below_drew1 HB.out)
    clear HO_3
    clear BK333
    clear HB
    have HO_3 := n0_
    have BK333 := n1_
    have HB := n2_
    clear n0_ n1_ n2_
    have p338 : 0 ≤ ((ji14) : Int) := of_decide_eq_true (by first | (with_reducible assumption) | assumption)
    have q338 : (ji14) < (x3_1.length : Int) := of_decide_eq_true (by first | (with_reducible assumption) | assumption)
    obtain ⟨ad338, e338, hx338_0, hx338_1⟩ := at_T66 (Kd.R_reads' HO_3.out).2.2 (ji14) p338 q338
    cases e338
    replace p338 := eq_true p338
    replace q338 := eq_true q338
    have p339 : 0 ≤ (x4_1 : Int) := of_decide_eq_true (by first | (with_reducible assumption) | assumption)
    have q339 : x4_1 < (l0_3.length : Int) := of_decide_eq_true (by first | (with_reducible assumption) | assumption)
    obtain ⟨ad339, e339, hx339_0, hx339_1⟩ := at_T68 HR0_3.out x4_1 p339 q339
    have hw339_1 := hx339_1
    have hw339_0 := hx339_0
    cases e339
    replace hx339_0 := (HB.out.cell (lc_ w _ hx339_0)).trans hx339_0
    replace hx339_1 := (HB.out.cell (lc_ w _ hx339_1)).trans hx339_1
    replace p339 := eq_true p339
    replace q339 := eq_true q339
    refine start_ (n := 16) (S := fun w' => w'.cell? ⟨gb333, 0, none⟩ = some (.int .i64 a0_0) ∧ w'.cell? ⟨gb333, 1, none⟩ = some (.int .i64 a0_1) ∧ w'.cell? ⟨gb333, 2, none⟩ = some (.slice A0_2 l0_2.length c0_2) ∧ w'.cell? ⟨gb333, 3, none⟩ = some (.slice (some ad339) l0_3.length c0_3) ∧ w'.cell? (ad338.add (((ji14)).toNat * 2)) = some (.int .i64 ((rd_T66 x3_1 (ji14)).f0)) ∧ w'.cell? ⟨(ad338.add (((ji14)).toNat * 2)).block, (ad338.add (((ji14)).toNat * 2)).off + 1, none⟩ = some (.int .i64 ((rd_T66 x3_1 (ji14)).f1)) ∧ w'.cell? (ad339.add ((x4_1).toNat * 2)) = some (.int .i64 ((rd_T68 l0_3 x4_1).f0)) ∧ w'.cell? ⟨(ad339.add ((x4_1).toNat * 2)).block, (ad339.add ((x4_1).toNat * 2)).off + 1, none⟩ = some (.int .u8 ((rd_T68 l0_3 x4_1).f1))) (ds := []) #[F_, F_, F_, F_, F_, F_, F_, F_, F_, F_, F_, F_, F_, F_, F_, F_] (by kernel_rfl) rfl rfl ⟨(blk_cell BK333.out 0).trans rfl, (blk_cell BK333.out 1).trans rfl, (blk_cell BK333.out 2).trans rfl, (blk_cell BK333.out 3).trans rfl, hx338_0, hx338_1, ((HB.out.cell (lc_ w _ hw339_0)).trans hw339_0), ((HB.out.cell (lc_ w _ hw339_1)).trans hw339_1)⟩ (fun hHeld => ?_); refine with_tabW spec_EarRanges.tab8 spec_EarRanges.bits8 (fun HT_ HW_ => ?_)
    generalize wr.drew = w18 at HO_3 BK333 HB hx338_0 hx338_1 hx339_0 hx339_1 hHeld ⊢
    refine pure_ (i := 0) (N := some 21) (v := ?_) (a' := ?_) #[T_, F_, F_, F_, F_, F_, F_, F_, F_, F_, F_, F_, F_, F_, F_, F_] rfl rfl (any_of HT_.out (by kernel_rfl)) (fun _ _ _ h => h) (Or.inl ⟨by rfl, ?_⟩) ?_ ?_
    rotate_left
    ·intro w'
     go_simp
     with_reducible rfl
    rotate_left
    ·simp only [Act.put, la_, lz_, ls_, i64_w, i32_w]
     rfl
    refine pure_ (i := 1) (N := some 22) (v := ?_) (a' := ?_) #[T_, T_, F_, F_, F_, F_, F_, F_, F_, F_, F_, F_, F_, F_, F_, F_] rfl rfl (any_of HT_.out (by kernel_rfl)) (fun _ _ _ h => h) (Or.inl ⟨by rfl, ?_⟩) ?_ ?_
    rotate_left
    ·intro w'
     go_simp
     with_reducible rfl
    rotate_left
    ·simp only [Act.put, la_, lz_, ls_, i64_w, i32_w]
     rfl
    refine pure_ (i := 2) (N := some 23) (v := ?_) (a' := ?_) #[T_, T_, T_, F_, F_, F_, F_, F_, F_, F_, F_, F_, F_, F_, F_, F_] rfl rfl (any_of HT_.out (by kernel_rfl)) (fun _ _ _ h => h) (Or.inl ⟨by rfl, ?_⟩) ?_ ?_
    rotate_left
    ·intro w'
     go_simp
     with_reducible rfl
    rotate_left
    ·simp only [Act.put, la_, lz_, ls_, i64_w, i32_w]
     rfl
    refine pure_ (i := 3) (N := some 24) (v := ?_) (a' := ?_) #[T_, T_, T_, T_, F_, F_, F_, F_, F_, F_, F_, F_, F_, F_, F_, F_] rfl rfl (any_of HT_.out (by kernel_rfl)) (fun _ _ _ h => h) (Or.inl ⟨by rfl, ?_⟩) ?_ ?_
    rotate_left
    ·intro w'
     go_simp
     with_reducible rfl
    rotate_left
    ·simp only [Act.put, la_, lz_, ls_, i64_w, i32_w]
     rfl
    refine pure_ (i := 4) (N := some 25) (v := ?_) (a' := ?_) #[T_, T_, T_, T_, T_, F_, F_, F_, F_, F_, F_, F_, F_, F_, F_, F_] rfl rfl (any_of HT_.out (by kernel_rfl)) (fun _ _ _ h => h) (Or.inl ⟨by rfl, ?_⟩) ?_ ?_
    rotate_left
    ·intro w'
     go_simp
     with_reducible rfl
    rotate_left
    ·simp only [Act.put, la_, lz_, ls_, i64_w, i32_w]
     rfl
    refine pure_ (i := 5) (N := some 26) (v := ?_) (a' := ?_) #[T_, T_, T_, T_, T_, T_, F_, F_, F_, F_, F_, F_, F_, F_, F_, F_] rfl rfl (any_of HT_.out (by kernel_rfl)) (fun _ _ _ h => h) (Or.inl ⟨by rfl, ?_⟩) ?_ ?_
    rotate_left
    ·intro w'
     go_simp
     with_reducible rfl
    rotate_left
    ·simp only [Act.put, la_, lz_, ls_, i64_w, i32_w]
     rfl
    refine pure_ (i := 6) (N := some 27) (v := ?_) (a' := ?_) #[T_, T_, T_, T_, T_, T_, T_, F_, F_, F_, F_, F_, F_, F_, F_, F_] rfl rfl (any_of HT_.out (by kernel_rfl)) (fun _ _ _ h => h) (Or.inl ⟨by rfl, ?_⟩) ?_ ?_
    rotate_left
    ·intro w'
     go_simp
     with_reducible rfl
    rotate_left
    ·simp only [Act.put, la_, lz_, ls_, i64_w, i32_w]
     rfl
    refine pure_ (i := 8) (N := some 29) (v := ?_) (a' := ?_) #[T_, T_, T_, T_, T_, T_, T_, F_, T_, F_, F_, F_, F_, F_, F_, F_] rfl rfl (any_of HT_.out (by kernel_rfl)) (fun _ _ _ h => h) (Or.inl ⟨by rfl, ?_⟩) ?_ ?_
    rotate_left
    ·intro w'
     go_simp
     with_reducible rfl
    rotate_left
    ·simp only [Act.put, la_, lz_, ls_, i64_w, i32_w]
     rfl
    refine pure_ (i := 10) (N := some 31) (v := ?_) (a' := ?_) #[T_, T_, T_, T_, T_, T_, T_, F_, T_, F_, T_, F_, F_, F_, F_, F_] rfl rfl (any_of HT_.out (by kernel_rfl)) (fun _ _ _ h => h) (Or.inl ⟨by rfl, ?_⟩) ?_ ?_
    rotate_left
    ·intro w'
     go_simp
     with_reducible rfl
    rotate_left
    ·simp only [Act.put, la_, lz_, ls_, i64_w, i32_w]
     rfl
    refine take_ (i := 7) (N := some 28) (v := ?_) (a' := ?_) #[T_, T_, T_, T_, T_, T_, T_, T_, T_, F_, T_, F_, F_, F_, F_, F_] rfl rfl (take_ofW HT_.out HW_.out (by kernel_rfl)) (fun _ _ _ h => h) (Or.inl ⟨by rfl, ?_⟩) hHeld ?_ ?_
    rotate_left
    ·rintro w' ⟨s0, s1, s2, s3, s4, s5, s6, s7⟩
     go_simp
     with_reducible rfl
    rotate_left
    ·simp only [Act.put, la_, lz_, ls_, i64_w, i32_w]
     rfl
    refine take_ (i := 9) (N := some 30) (v := ?_) (a' := ?_) #[T_, T_, T_, T_, T_, T_, T_, T_, T_, T_, T_, F_, F_, F_, F_, F_] rfl rfl (take_ofW HT_.out HW_.out (by kernel_rfl)) (fun _ _ _ h => h) (Or.inl ⟨by rfl, ?_⟩) hHeld ?_ ?_
    rotate_left
    ·rintro w' ⟨s0, s1, s2, s3, s4, s5, s6, s7⟩
     go_simp
     with_reducible rfl
    rotate_left
    ·simp only [Act.put, la_, lz_, ls_, i64_w, i32_w]
     rfl
    refine pure_ (i := 11) (N := some 32) (v := ?_) (a' := ?_) #[T_, T_, T_, T_, T_, T_, T_, T_, T_, T_, T_, T_, F_, F_, F_, F_] rfl rfl (any_of HT_.out (by kernel_rfl)) (fun _ _ _ h => h) (Or.inl ⟨by rfl, ?_⟩) ?_ ?_
    rotate_left
    ·intro w'
     go_simp
     with_reducible rfl
    rotate_left
    ·simp only [Act.put, la_, lz_, ls_, i64_w, i32_w]
     rfl
    refine pure_ (i := 12) (N := some 33) (v := ?_) (a' := ?_) #[T_, T_, T_, T_, T_, T_, T_, T_, T_, T_, T_, T_, T_, F_, F_, F_] rfl rfl (any_of HT_.out (by kernel_rfl)) (fun _ _ _ h => h) (Or.inl ⟨by rfl, ?_⟩) ?_ ?_
    rotate_left
    ·intro w'
     go_simp
     with_reducible rfl
    rotate_left
    ·simp only [Act.put, la_, lz_, ls_, i64_w, i32_w]
     rfl
    refine take_ (i := 13) (N := some 34) (v := ?_) (a' := ?_) #[T_, T_, T_, T_, T_, T_, T_, T_, T_, T_, T_, T_, T_, T_, F_, F_] rfl rfl (take_ofW HT_.out HW_.out (by kernel_rfl)) (fun _ _ _ h => h) (Or.inl ⟨by rfl, ?_⟩) hHeld ?_ ?_
    rotate_left
    ·rintro w' ⟨s0, s1, s2, s3, s4, s5, s6, s7⟩
     go_simp
     with_reducible rfl
    rotate_left
    ·simp only [Act.put, la_, lz_, ls_, i64_w, i32_w]
     rfl
    refine pure_ (i := 14) (N := some 35) (v := ?_) (a' := ?_) #[T_, T_, T_, T_, T_, T_, T_, T_, T_, T_, T_, T_, T_, T_, T_, F_] rfl rfl (any_of HT_.out (by kernel_rfl)) (fun _ _ _ h => h) (Or.inl ⟨by rfl, ?_⟩) ?_ ?_
    rotate_left
    ·intro w'
     go_simp
     with_reducible rfl
    rotate_left
    ·simp only [Act.put, la_, lz_, ls_, i64_w, i32_w]
     rfl
    refine pure_ (i := 15) (N := some 36) (v := ?_) (a' := ?_) #[T_, T_, T_, T_, T_, T_, T_, T_, T_, T_, T_, T_, T_, T_, T_, T_] rfl rfl (any_of HT_.out (by kernel_rfl)) (fun _ _ _ h => h) (Or.inl ⟨by rfl, ?_⟩) ?_ ?_
    rotate_left
    ·intro w'
     go_simp
     with_reducible rfl
    rotate_left
    ·simp only [Act.put, la_, lz_, ls_, i64_w, i32_w]
     rfl
    refine done_ (done_of HT_.out (by kernel_rfl)) ?_
    try go_wp2
    go_meet
    case rel => exact ⟨_, ((((rd_T66 x3_1 (ji14)).f1) == ((rd_T68 l0_3 x4_1).f0))), (by first | rfl | (simp; done) | (simp only [← hji14] <;> (first | rfl | simp)) | (simp [*]; done)), (by first | exact H' | (simp only [← hji14] at H'; exact H') | (simp only [← hji14] at H' ⊢; exact H') | (simp only [← hji14]; exact H')), ⟨by have := HK1.out; first | omega | exact Nat.le_refl _⟩, ⟨Kd.ur_ HO_3.out⟩, ⟨u_ BK333.out⟩, ⟨us_ HB.out⟩⟩
   case rest =>
    clear HC10
    try clear c1
    try clear p2
    try clear c3
    try clear p3
    try clear q3
    try clear hx3
    try clear p6
    try clear c9
    try clear c9b0
    try clear c13
    try clear c13b0
    try clear c15
    try clear c15b0
    try clear c16
    try clear c16b0
    try clear c17
    try clear c17b0
    try clear hcz11_0
    try clear hcz11_1
    try clear hcz11_2
    try clear hcz11_3
    try clear hcz7_0
    try clear hcz7_1
    try clear hcz7_2
    try clear hcz7_3
    try clear hfz11_0
    try clear hfz11_1
    try clear hfz11_2
    try clear hfz11_3
    try clear hfz7_0
    try clear hfz7_1
    try clear hfz7_2
    try clear hfz7_3
    try clear hx338_0
    try clear hx338_1
    try clear hx339_0
    try clear hx339_1
    try clear p2
    try clear p338
    try clear p339
    try clear q338
    try clear q339
    obtain ⟨kq, x36_9, rfl, HA, HJ9, HO_3, BK333, HB⟩ := hcut
    cases kq with
    | zero => exact absurd HA.out (by simp [spec_EarRanges.j1])
    | succ kj9 =>
     have H := HA.out
     clear HA
     simp only [spec_EarRanges.j1] at H
     by_cases c20 : x36_9 = true
     ·subst c20
      rw [if_pos rfl] at H
      obtain ⟨ji21, hji21⟩ : ∃ j_ : Int, (wrap64 ((x3_1.length : Int) - 1)) = j_ := ⟨_, rfl⟩
      replace H : (if 0 ≤ (ji21) then (if (ji21) < (x3_1.length : Int) then (spec_EarRanges.l0 kj9 (x3_1.set ((ji21) : Int).toNat (⟨(rd_T66 x3_1 (ji21)).f0, wrap64 (((rd_T66 x3_1 (ji21)).f1) + 1)⟩ : S66)) (wrap64 (x4_1 + 1)) a0_0 a0_1 l0_2 l0_3) else (none)) else (none)) = some r := by first | (rw [hji21] at H; exact H) | (simp only [hji21] at H ⊢; exact H)
      have hji21w : (IntKind.i64.wrap ((x3_1.length : Int) - 1)) = ji21 := (i64_w _).trans hji21
      by_cases c22 : 0 ≤ (ji21)
      rotate_left
      ·rw [if_neg c22] at H
       exact absurd H (by simp)
      rw [if_pos c22] at H
      have c22b0 : decide (0 ≤ (ji21)) = true := decide_eq_true c22
      clear c22
      by_cases c23 : (ji21) < (x3_1.length : Int)
      rotate_left
      ·rw [if_neg c23] at H
       exact absurd H (by simp)
      rw [if_pos c23] at H
      have c23b0 : decide ((ji21) < (x3_1.length : Int)) = true := decide_eq_true c23
      clear c23
      obtain ⟨y341, hy341⟩ : ∃ y_ : List (S66), y_ = (x3_1.set ((ji21) : Int).toNat (⟨(rd_T66 x3_1 (ji21)).f0, wrap64 (((rd_T66 x3_1 (ji21)).f1) + 1)⟩ : S66)) := ⟨_, rfl⟩
      replace H : (spec_EarRanges.l0 kj9 y341 (wrap64 (x4_1 + 1)) a0_0 a0_1 l0_2 l0_3) = some r := by first | (rw [hy341]; with_reducible exact H) | (have H2_ := (Option.bind_some _ _).symm.trans H; rw [hy341]; with_reducible exact H2_) | (have H2_ := (Option.bind_some _ _).symm.trans H; with_reducible exact H2_) | with_reducible exact H | (rw [hy341]; exact H) | exact H
      have Ny341 := mk_ hy341
      clear hy341
      have H' := mk_ H
      clear H
      have p340 : 0 ≤ ((ji21) : Int) := of_decide_eq_true (by first | (with_reducible assumption) | assumption)
      have q340 : (ji21) < (x3_1.length : Int) := of_decide_eq_true (by first | (with_reducible assumption) | assumption)
      obtain ⟨ad340, e340, hx340_0, hx340_1⟩ := at_T66 (Kd.R_reads' HO_3.out).2.2 (ji21) p340 q340
      cases e340
      replace p340 := eq_true p340
      replace q340 := eq_true q340
      have p24 : 0 ≤ ((ji21) : Int) := of_decide_eq_true (by first | (with_reducible assumption) | assumption)
      have q24 : ((ji21) : Int) < ((x3_1.length : Int) : Int) := of_decide_eq_true (by first | (with_reducible assumption) | assumption)
      obtain ⟨go24, co24, eo24, gb24, gl24, cl24, HG24⟩ := Kd.R_form HO_3.out (by omega)
      (first | cases eo24 | (injection eo24 with ea_ en_ ec_; (first | subst ea_ | (injection ea_ with ea_; subst ea_)); subst ec_; clear en_))
      have GB24 := mk_ gb24
      have GG24 := mk_ HG24
      clear gb24 gl24 HG24
      (first | simp only [add_plain] at hx340_0 | skip)
      (first | simp only [add_plain] at hx340_1 | skip)
      obtain ⟨ce24, hcl24, hM24, hcc24, hfr24⟩ := Kd.R_elem HO_3.out z66 ((ji21) : Int) p24 q24
      obtain rfl := k66_openM hM24
      have hx24_0 : wc.cell? ⟨go24, ((ji21) : Int).toNat * 2, none⟩ = some (.int .i64 ((rd_T66 x3_1 (ji21)).f0)) := hcc24 0 _ rfl
      have hx24_1 : wc.cell? ⟨go24, ((ji21) : Int).toNat * 2 + 1, none⟩ = some (.int .i64 ((rd_T66 x3_1 (ji21)).f1)) := hcc24 1 _ rfl
      have hf24_0 : wc.frozen? ⟨go24, ((ji21) : Int).toNat * 2, none⟩ = false := hfr24 0
      have hf24_1 : wc.frozen? ⟨go24, ((ji21) : Int).toNat * 2 + 1, none⟩ = false := hfr24 1
      clear hcl24 hcc24 hfr24 hM24
      replace p24 := eq_true p24
      replace q24 := eq_true q24
      have HX25 := mk_ (show Kd.R k66 66 wc w.heap.size (fun _ => True) (.slice (some ⟨go24, 0, none⟩) x3_1.length co12) x3_1 from (Kd.ur_ HO_3.out))
      obtain ⟨ce25, hcl25, hM25, hcc25, hfr25⟩ := Kd.R_elem HX25.out z66 ((ji21) : Int) (of_decide_eq_true (by first | (with_reducible assumption) | assumption)) (by have h_ : ((ji21) : Int) < ((x3_1.length : Int) : Int) := of_decide_eq_true (by first | (with_reducible assumption) | assumption); first | exact h_ | (have e_ := (Kd.R_reads' HO_3.out).1; omega) | simpa using h_)
      obtain rfl := k66_openM hM25
      have HP25 := Kd.R_seg HX25.out ((ji21) : Int) (of_decide_eq_true (by first | (with_reducible assumption) | assumption)) (by have h_ : ((ji21) : Int) < ((x3_1.length : Int) : Int) := of_decide_eq_true (by first | (with_reducible assumption) | assumption); first | exact h_ | (have e_ := (Kd.R_reads' HO_3.out).1; omega) | simpa using h_) (seg := [.int .i64 (wrap64 (((rd_T66 x3_1 (ji21)).f1) + 1))]) (j := 1) hcl25 hcc25 (show 2 ≤ 2 from by decide) (x' := (⟨(rd_T66 x3_1 (ji21)).f0, wrap64 (((rd_T66 x3_1 (ji21)).f1) + 1)⟩ : S66)) (k66_mkM _ _ _ (⟨(rd_T66 x3_1 (ji21)).f0, wrap64 (((rd_T66 x3_1 (ji21)).f1) + 1)⟩ : S66) ) (fun _ hk => hk)
      have hx25_1 := hcc25 1 _ rfl
      (try simp only [show (k66).sz = 2 from rfl, Nat.mul_one, Nat.add_zero] at hx25_1)
      have hf25_1 := hfr25 1
      (try simp only [show (k66).sz = 2 from rfl, Nat.mul_one, Nat.add_zero] at hf25_1)
      clear hcl25 hcc25 hfr25 hM25
      go_wp2_with (first | ((with_reducible refine gate_store (t := 3) (p := 46) rfl ?_); refine store_event (t := 3) (p := 46) (v := ?_) (w1 := (wc.setCell ⟨go24, ((ji21) : Int).toNat * 2 + 1, none⟩ (.int .i64 (wrap64 (((rd_T66 x3_1 (ji21)).f1) + 1))))) ?hg ?ho ?hn ?hr ?_; (case ho => rfl); (case hg => rfl); (case hn => rfl); (case hr => first | (go_simp; done) | (go_simp; rfl)); intro w26 hw; have hg : wc.grownBy w26 (some go24) := (by rw [hw]; exact HP25.2); have hp_ : Kd.R k66 66 w26 w.heap.size (fun _ => True) (.slice (some ⟨go24, 0, none⟩) x3_1.length co12) y341 := (by rw [hw, Ny341.out]; exact HP25.1); clear HP25; have n0_ := mk_ (hp_); replace BK333 := mk_ (blk_grown (g := gb333) (o := .cells #[.int .i64 a0_0, .int .i64 a0_1, .slice A0_2 l0_2.length c0_2, .slice A0_3 l0_3.length c0_3] 59 (0, 0)) (u_ BK333.out) hg (Kd.R_ne HO_3.out BK333.out (by decide))); replace HB := mk_ ((by rw [hw]; exact below_set (HB.out) GB24.out : Below w.heap.size w w26)); replace HO_3 := n0_; clear n0_; clear hg hw hp_))
      go_roundg kj9
      case measure => have := HK1.out; have := HJ9.out; omega
      case rel => exact ⟨(y341), (wrap64 (x4_1 + 1)), (by first | rfl | (simp; done) | (simp [*]; done)), H', ⟨by have := HK1.out; have := HJ9.out; omega⟩, ⟨Kd.ur_ HO_3.out⟩, ⟨u_ BK333.out⟩, ⟨us_ HB.out⟩⟩
     replace c20 := Bool.eq_false_iff.mpr c20
     subst c20
     rw [if_neg (show ¬ (false = true) by decide)] at H
     by_cases c27 : (x3_1.length : Int) < 2
     rotate_left
     ·rw [if_neg c27] at H
      have c27b0 : decide ((x3_1.length : Int) < 2) = false := decide_eq_false c27
      have c27b1 : decide (x3_1.length < 2) = false := decide_eq_false (by omega)
      clear c27
      have H' := mk_ H
      clear H
      go_wp2
      go_roundg kj9
      case measure => have := HK1.out; have := HJ9.out; omega
      case rel => exact ⟨(x3_1), (wrap64 (x4_1 + 1)), (by first | rfl | (simp; done) | (simp [*]; done)), H', ⟨by have := HK1.out; have := HJ9.out; omega⟩, ⟨Kd.ur_ HO_3.out⟩, ⟨u_ BK333.out⟩, ⟨us_ HB.out⟩⟩
     rw [if_pos c27] at H
     have c27b0 : decide ((x3_1.length : Int) < 2) = true := decide_eq_true c27
     have c27b1 : decide (x3_1.length < 2) = true := decide_eq_true (by omega)
     clear c27
     by_cases c28 : 0 ≤ x4_1
     rotate_left
     ·rw [if_neg c28] at H
      exact absurd H (by simp)
     rw [if_pos c28] at H
     have c28b0 : decide (0 ≤ x4_1) = true := decide_eq_true c28
     clear c28
     by_cases c29 : x4_1 < (l0_3.length : Int)
     rotate_left
     ·rw [if_neg c29] at H
      exact absurd H (by simp)
     rw [if_pos c29] at H
     have c29b0 : decide (x4_1 < (l0_3.length : Int)) = true := decide_eq_true c29
     clear c29
     by_cases c30 : x3_1.length < 8796093022208
     rotate_left
     ·rw [if_neg c30] at H
      exact absurd H (by simp)
     rw [if_pos c30] at H
     have LMc30 := mk_ c30
     clear c30
     obtain ⟨y344, hy344⟩ : ∃ y_ : List (S66), y_ = (x3_1 ++ [(⟨(rd_T68 l0_3 x4_1).f0, wrap64 (((rd_T68 l0_3 x4_1).f0) + 1)⟩ : S66)]) := ⟨_, rfl⟩
     replace H : (spec_EarRanges.l0 kj9 y344 (wrap64 (x4_1 + 1)) a0_0 a0_1 l0_2 l0_3) = some r := by first | (rw [hy344]; with_reducible exact H) | (have H2_ := (Option.bind_some _ _).symm.trans H; rw [hy344]; with_reducible exact H2_) | (have H2_ := (Option.bind_some _ _).symm.trans H; with_reducible exact H2_) | with_reducible exact H | (rw [hy344]; exact H) | exact H
     have Ny344 := mk_ hy344
     clear hy344
     have H' := mk_ H
     clear H
     try go_wp2
     have n0_ := mk_ (Kd.R_drew HO_3.out)
     have n1_ := mk_ (blk_drew BK333.out)
     have n2_ := mk_ (below_drew1 HB.out)
     clear HO_3
     clear BK333
     clear HB
     have HO_3 := n0_
     have BK333 := n1_
     have HB := n2_
     clear n0_ n1_ n2_
     have p342 : 0 ≤ (x4_1 : Int) := of_decide_eq_true (by first | (with_reducible assumption) | assumption)
     have q342 : x4_1 < (l0_3.length : Int) := of_decide_eq_true (by first | (with_reducible assumption) | assumption)
     obtain ⟨ad342, e342, hx342_0, hx342_1⟩ := at_T68 HR0_3.out x4_1 p342 q342
     have hw342_1 := hx342_1
     have hw342_0 := hx342_0
     cases e342
     replace hx342_0 := (HB.out.cell (lc_ w _ hx342_0)).trans hx342_0
     replace hx342_1 := (HB.out.cell (lc_ w _ hx342_1)).trans hx342_1
     replace p342 := eq_true p342
     replace q342 := eq_true q342
     have p343 : 0 ≤ (x4_1 : Int) := of_decide_eq_true (by first | (with_reducible assumption) | assumption)
     have q343 : x4_1 < (l0_3.length : Int) := of_decide_eq_true (by first | (with_reducible assumption) | assumption)
     obtain ⟨ad343, e343, hx343_0, hx343_1⟩ := at_T68 HR0_3.out x4_1 p343 q343
     have hw343_1 := hx343_1
     have hw343_0 := hx343_0
     obtain rfl : ad342 = ad343 := (by injection e343)
     replace hx343_0 := (HB.out.cell (lc_ w _ hx343_0)).trans hx343_0
     replace hx343_1 := (HB.out.cell (lc_ w _ hx343_1)).trans hx343_1
     replace p343 := eq_true p343
     replace q343 := eq_true q343
     refine start_ (n := 18) (S := fun w' => w'.cell? ⟨gb333, 0, none⟩ = some (.int .i64 a0_0) ∧ w'.cell? ⟨gb333, 1, none⟩ = some (.int .i64 a0_1) ∧ w'.cell? ⟨gb333, 2, none⟩ = some (.slice A0_2 l0_2.length c0_2) ∧ w'.cell? ⟨gb333, 3, none⟩ = some (.slice (some ad342) l0_3.length c0_3) ∧ w'.cell? (ad342.add ((x4_1).toNat * 2)) = some (.int .i64 ((rd_T68 l0_3 x4_1).f0)) ∧ w'.cell? ⟨(ad342.add ((x4_1).toNat * 2)).block, (ad342.add ((x4_1).toNat * 2)).off + 1, none⟩ = some (.int .u8 ((rd_T68 l0_3 x4_1).f1)) ∧ w'.cell? (ad342.add ((x4_1).toNat * 2)) = some (.int .i64 ((rd_T68 l0_3 x4_1).f0)) ∧ w'.cell? ⟨(ad342.add ((x4_1).toNat * 2)).block, (ad342.add ((x4_1).toNat * 2)).off + 1, none⟩ = some (.int .u8 ((rd_T68 l0_3 x4_1).f1))) (ds := []) #[F_, F_, F_, F_, F_, F_, F_, F_, F_, F_, F_, F_, F_, F_, F_, F_, F_, F_] (by kernel_rfl) rfl rfl ⟨(blk_cell BK333.out 0).trans rfl, (blk_cell BK333.out 1).trans rfl, (blk_cell BK333.out 2).trans rfl, (blk_cell BK333.out 3).trans rfl, ((HB.out.cell (lc_ w _ hw342_0)).trans hw342_0), ((HB.out.cell (lc_ w _ hw342_1)).trans hw342_1), ((HB.out.cell (lc_ w _ hw343_0)).trans hw343_0), ((HB.out.cell (lc_ w _ hw343_1)).trans hw343_1)⟩ (fun hHeld => ?_); refine with_tabW spec_EarRanges.tab11 spec_EarRanges.bits11 (fun HT_ HW_ => ?_)
     generalize wc.drew = w31 at HO_3 BK333 HB hx342_0 hx342_1 hx343_0 hx343_1 hHeld ⊢
     refine pure_ (i := 0) (N := some 50) (v := ?_) (a' := ?_) #[T_, F_, F_, F_, F_, F_, F_, F_, F_, F_, F_, F_, F_, F_, F_, F_, F_, F_] rfl rfl (any_of HT_.out (by kernel_rfl)) (fun _ _ _ h => h) (Or.inl ⟨by rfl, ?_⟩) ?_ ?_
     rotate_left
     ·intro w'
      go_simp
      with_reducible rfl
     rotate_left
     ·simp only [Act.put, la_, lz_, ls_, i64_w, i32_w]
      rfl
     refine pure_ (i := 1) (N := some 51) (v := ?_) (a' := ?_) #[T_, T_, F_, F_, F_, F_, F_, F_, F_, F_, F_, F_, F_, F_, F_, F_, F_, F_] rfl rfl (any_of HT_.out (by kernel_rfl)) (fun _ _ _ h => h) (Or.inl ⟨by rfl, ?_⟩) ?_ ?_
     rotate_left
     ·intro w'
      go_simp
      with_reducible rfl
     rotate_left
     ·simp only [Act.put, la_, lz_, ls_, i64_w, i32_w]
      rfl
     refine pure_ (i := 3) (N := some 53) (v := ?_) (a' := ?_) #[T_, T_, F_, T_, F_, F_, F_, F_, F_, F_, F_, F_, F_, F_, F_, F_, F_, F_] rfl rfl (any_of HT_.out (by kernel_rfl)) (fun _ _ _ h => h) (Or.inl ⟨by rfl, ?_⟩) ?_ ?_
     rotate_left
     ·intro w'
      go_simp
      with_reducible rfl
     rotate_left
     ·simp only [Act.put, la_, lz_, ls_, i64_w, i32_w]
      rfl
     refine pure_ (i := 7) (N := some 57) (v := ?_) (a' := ?_) #[T_, T_, F_, T_, F_, F_, F_, T_, F_, F_, F_, F_, F_, F_, F_, F_, F_, F_] rfl rfl (any_of HT_.out (by kernel_rfl)) (fun _ _ _ h => h) (Or.inl ⟨by rfl, ?_⟩) ?_ ?_
     rotate_left
     ·intro w'
      go_simp
      with_reducible rfl
     rotate_left
     ·simp only [Act.put, la_, lz_, ls_, i64_w, i32_w]
      rfl
     refine pure_ (i := 9) (N := some 59) (v := ?_) (a' := ?_) #[T_, T_, F_, T_, F_, F_, F_, T_, F_, T_, F_, F_, F_, F_, F_, F_, F_, F_] rfl rfl (any_of HT_.out (by kernel_rfl)) (fun _ _ _ h => h) (Or.inl ⟨by rfl, ?_⟩) ?_ ?_
     rotate_left
     ·intro w'
      go_simp
      with_reducible rfl
     rotate_left
     ·simp only [Act.put, la_, lz_, ls_, i64_w, i32_w]
      rfl
     refine take_ (i := 2) (N := some 52) (v := ?_) (a' := ?_) #[T_, T_, T_, T_, F_, F_, F_, T_, F_, T_, F_, F_, F_, F_, F_, F_, F_, F_] rfl rfl (take_ofW HT_.out HW_.out (by kernel_rfl)) (fun _ _ _ h => h) (Or.inl ⟨by rfl, ?_⟩) hHeld ?_ ?_
     rotate_left
     ·rintro w' ⟨s0, s1, s2, s3, s4, s5, s6, s7⟩
      go_simp
      with_reducible rfl
     rotate_left
     ·simp only [Act.put, la_, lz_, ls_, i64_w, i32_w]
      rfl
     refine pure_ (i := 4) (N := some 54) (v := ?_) (a' := ?_) #[T_, T_, T_, T_, T_, F_, F_, T_, F_, T_, F_, F_, F_, F_, F_, F_, F_, F_] rfl rfl (any_of HT_.out (by kernel_rfl)) (fun _ _ _ h => h) (Or.inl ⟨by rfl, ?_⟩) ?_ ?_
     rotate_left
     ·intro w'
      go_simp
      with_reducible rfl
     rotate_left
     ·simp only [Act.put, la_, lz_, ls_, i64_w, i32_w]
      rfl
     refine pure_ (i := 5) (N := some 55) (v := ?_) (a' := ?_) #[T_, T_, T_, T_, T_, T_, F_, T_, F_, T_, F_, F_, F_, F_, F_, F_, F_, F_] rfl rfl (any_of HT_.out (by kernel_rfl)) (fun _ _ _ h => h) (Or.inl ⟨by rfl, ?_⟩) ?_ ?_
     rotate_left
     ·intro w'
      go_simp
      with_reducible rfl
     rotate_left
     ·simp only [Act.put, la_, lz_, ls_, i64_w, i32_w]
      rfl
     refine take_ (i := 6) (N := some 56) (v := ?_) (a' := ?_) #[T_, T_, T_, T_, T_, T_, T_, T_, F_, T_, F_, F_, F_, F_, F_, F_, F_, F_] rfl rfl (take_ofW HT_.out HW_.out (by kernel_rfl)) (fun _ _ _ h => h) (Or.inl ⟨by rfl, ?_⟩) hHeld ?_ ?_
     rotate_left
     ·rintro w' ⟨s0, s1, s2, s3, s4, s5, s6, s7⟩
      go_simp
      with_reducible rfl
     rotate_left
     ·simp only [Act.put, la_, lz_, ls_, i64_w, i32_w]
      rfl
     refine take_ (i := 8) (N := some 58) (v := ?_) (a' := ?_) #[T_, T_, T_, T_, T_, T_, T_, T_, T_, T_, F_, F_, F_, F_, F_, F_, F_, F_] rfl rfl (take_ofW HT_.out HW_.out (by kernel_rfl)) (fun _ _ _ h => h) (Or.inl ⟨by rfl, ?_⟩) hHeld ?_ ?_
     rotate_left
     ·rintro w' ⟨s0, s1, s2, s3, s4, s5, s6, s7⟩
      go_simp
      with_reducible rfl
     rotate_left
     ·simp only [Act.put, la_, lz_, ls_, i64_w, i32_w]
      rfl
     refine pure_ (i := 10) (N := some 60) (v := ?_) (a' := ?_) #[T_, T_, T_, T_, T_, T_, T_, T_, T_, T_, T_, F_, F_, F_, F_, F_, F_, F_] rfl rfl (any_of HT_.out (by kernel_rfl)) (fun _ _ _ h => h) (Or.inl ⟨by rfl, ?_⟩) ?_ ?_
     rotate_left
     ·intro w'
      go_simp
      with_reducible rfl
     rotate_left
     ·simp only [Act.put, la_, lz_, ls_, i64_w, i32_w]
      rfl
     refine pure_ (i := 11) (N := some 61) (v := ?_) (a' := ?_) #[T_, T_, T_, T_, T_, T_, T_, T_, T_, T_, T_, T_, F_, F_, F_, F_, F_, F_] rfl rfl (any_of HT_.out (by kernel_rfl)) (fun _ _ _ h => h) (Or.inl ⟨by rfl, ?_⟩) ?_ ?_
     rotate_left
     ·intro w'
      go_simp
      with_reducible rfl
     rotate_left
     ·simp only [Act.put, la_, lz_, ls_, i64_w, i32_w]
      rfl
     refine take_ (i := 12) (N := some 62) (v := ?_) (a' := ?_) #[T_, T_, T_, T_, T_, T_, T_, T_, T_, T_, T_, T_, T_, F_, F_, F_, F_, F_] rfl rfl (take_ofW HT_.out HW_.out (by kernel_rfl)) (fun _ _ _ h => h) (Or.inl ⟨by rfl, ?_⟩) hHeld ?_ ?_
     rotate_left
     ·rintro w' ⟨s0, s1, s2, s3, s4, s5, s6, s7⟩
      go_simp
      with_reducible rfl
     rotate_left
     ·simp only [Act.put, la_, lz_, ls_, i64_w, i32_w]
      rfl
     refine pure_ (i := 13) (N := some 63) (v := ?_) (a' := ?_) #[T_, T_, T_, T_, T_, T_, T_, T_, T_, T_, T_, T_, T_, T_, F_, F_, F_, F_] rfl rfl (any_of HT_.out (by kernel_rfl)) (fun _ _ _ h => h) (Or.inl ⟨by rfl, ?_⟩) ?_ ?_
     rotate_left
     ·intro w'
      go_simp
      with_reducible rfl
     rotate_left
     ·simp only [Act.put, la_, lz_, ls_, i64_w, i32_w]
      rfl
     refine pure_ (i := 14) (N := some 64) (v := ?_) (a' := ?_) #[T_, T_, T_, T_, T_, T_, T_, T_, T_, T_, T_, T_, T_, T_, T_, F_, F_, F_] rfl rfl (any_of HT_.out (by kernel_rfl)) (fun _ _ _ h => h) (Or.inl ⟨by rfl, ?_⟩) ?_ ?_
     rotate_left
     ·intro w'
      go_simp
      with_reducible rfl
     rotate_left
     ·simp only [Act.put, la_, lz_, ls_, i64_w, i32_w]
      rfl
     refine one_ (i := 15) (N := some 65) #[T_, T_, T_, T_, T_, T_, T_, T_, T_, T_, T_, T_, T_, T_, T_, T_, F_, F_] rfl rfl (one_of HT_.out (by kernel_rfl)) (by decide) (fun K hK => ?_)
     refine value_ (w1 := ?_) (v := ?_) (by rfl) rfl ?_ ?_
     rotate_left 2
     ·go_simp
      constructor
      ·rfl
      rfl
     refine hK.out _ _ ⟨(blk_cell (blk_alloc BK333.out _) 0).trans rfl, (blk_cell (blk_alloc BK333.out _) 1).trans rfl, (blk_cell (blk_alloc BK333.out _) 2).trans rfl, (blk_cell (blk_alloc BK333.out _) 3).trans rfl, (World.cell?_alloc_lt _ _ _ (lc_ _ _ (((HB.out.cell (lc_ w _ hw342_0)).trans hw342_0)))).trans (((HB.out.cell (lc_ w _ hw342_0)).trans hw342_0)), (World.cell?_alloc_lt _ _ _ (lc_ _ _ (((HB.out.cell (lc_ w _ hw342_1)).trans hw342_1)))).trans (((HB.out.cell (lc_ w _ hw342_1)).trans hw342_1)), (World.cell?_alloc_lt _ _ _ (lc_ _ _ (((HB.out.cell (lc_ w _ hw343_0)).trans hw343_0)))).trans (((HB.out.cell (lc_ w _ hw343_0)).trans hw343_0)), (World.cell?_alloc_lt _ _ _ (lc_ _ _ (((HB.out.cell (lc_ w _ hw343_1)).trans hw343_1)))).trans (((HB.out.cell (lc_ w _ hw343_1)).trans hw343_1))⟩ (fun hHeld => ?_)
     clear hK K
     refine norm_ (a' := ?_) ?_ ?_
     rotate_left
     ·show Act.put _ (some 65) _ = _
      simp only [Act.put, la_, lz_, ls_, i64_w, i32_w]
      rfl
     refine one_ (i := 16) (N := some 66) #[T_, T_, T_, T_, T_, T_, T_, T_, T_, T_, T_, T_, T_, T_, T_, T_, T_, F_] rfl rfl (one_of HT_.out (by kernel_rfl)) (by decide) (fun K hK => ?_)
     refine Kd.R_append_step k66 (w0 := w) w.heap.size (by rfl) (.tmp 50) (.tmp 65) 62 66 (.agg #[(.int .i64 0), (.int .i64 0)]) 16 rfl Try.underlying62 info66 rfl (by decide) (by omega) (.slice Ao12 x3_1.length co12) x3_1 (⟨(rd_T68 l0_3 x4_1).f0, wrap64 (((rd_T68 l0_3 x4_1).f0) + 1)⟩ : S66) [.int .i64 ((rd_T68 l0_3 x4_1).f0), .int .i64 (wrap64 (((rd_T68 l0_3 x4_1).f0) + 1))] (fun _ => True) (fun _ => False) rfl rfl ?aP (fun _ hk => hk.elim) ?aF ?aO ?aB ?aS ?aL ?_
     (case aP => exact k66_mkM _ _ _ (⟨(rd_T68 l0_3 x4_1).f0, wrap64 (((rd_T68 l0_3 x4_1).f0) + 1)⟩ : S66))
     (case aB => exact (us_ HB.out))
     (case aF => exact (fun _ _ => trivial))
     (case aO => exact (Kd.ur_ HO_3.out))
     (case aS => exact (below_size (us_ HB.out)))
     (case aL => have := LMc30.out; omega)
     intro v345 w32 ho hb hg hat
     rw [← Ny344.out] at ho
     have n0_ := mk_ (blk_grown (g := gb333) (o := .cells #[.int .i64 a0_0, .int .i64 a0_1, .slice A0_2 l0_2.length c0_2, .slice (some ad342) l0_3.length c0_3] 59 (0, 0)) (u_ BK333.out) hg (Kd.R_ne HO_3.out BK333.out (by decide)))
     have n1_ := mk_ (hb)
     have n2_ := mk_ (ho)
     clear BK333
     clear HB
     clear HO_3
     have BK333 := n0_
     have HB := n1_
     have HO346 := n2_
     clear n0_ n1_ n2_
     clear ho hb hg hat
     refine hK.out _ _ ⟨(blk_cell BK333.out 0).trans rfl, (blk_cell BK333.out 1).trans rfl, (blk_cell BK333.out 2).trans rfl, (blk_cell BK333.out 3).trans rfl, ((HB.out.cell (lc_ w _ hw342_0)).trans hw342_0), ((HB.out.cell (lc_ w _ hw342_1)).trans hw342_1), ((HB.out.cell (lc_ w _ hw343_0)).trans hw343_0), ((HB.out.cell (lc_ w _ hw343_1)).trans hw343_1)⟩ (fun hHeld => ?_)
     clear hK K
     refine norm_ (a' := ?_) ?_ ?_
     rotate_left
     ·show Act.put _ (some 66) _ = _
      simp only [Act.put, la_, lz_, ls_, i64_w, i32_w]
      rfl
     refine pure_ (i := 17) (N := some 3) (v := ?_) (a' := ?_) #[T_, T_, T_, T_, T_, T_, T_, T_, T_, T_, T_, T_, T_, T_, T_, T_, T_, T_] rfl rfl (any_of HT_.out (by kernel_rfl)) (fun _ _ _ h => h) (Or.inl ⟨by rfl, ?_⟩) ?_ ?_
     rotate_left
     ·intro w'
      go_simp
      with_reducible rfl
     rotate_left
     ·simp only [Act.put, la_, lz_, ls_, i64_w, i32_w]
      rfl
     refine done_ (done_of HT_.out (by kernel_rfl)) ?_
     try go_wp2
     go_roundg kj9
     case measure => have := HK1.out; have := HJ9.out; omega
     case rel => exact ⟨(y344), (wrap64 (x4_1 + 1)), (by first | rfl | (simp; done) | (simp [*]; done)), H', ⟨by have := HK1.out; have := HJ9.out; omega⟩, ⟨Kd.ur_ HO346.out⟩, ⟨u_ BK333.out⟩, ⟨us_ HB.out⟩⟩

end Go.Proofs.Ytkkibccnpkbbjab.MFnEarRanges
