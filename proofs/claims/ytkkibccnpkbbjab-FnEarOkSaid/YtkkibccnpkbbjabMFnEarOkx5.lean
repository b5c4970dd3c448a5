/- Functions that the law FnEarOk reaches, each with the proof that the machine's call comes to just its answer; no conditions but those that each theorem states. Printed by a program of this session over the kit's print. -/
import Derived.Test.YtkkibccnpkbbjabMFnEarOkx0
import Derived.Test.YtkkibccnpkbbjabMFnEarOkx2
namespace Go.Proofs.Ytkkibccnpkbbjab.MFnEarOk
open Go.RowKit Go.Proofs.YtkkibccnpkbbjabV.PrintWords Go.Proofs.YtkkibccnpkbbjabV.PrintLast Go.Proofs.YtkkibccnpkbbjabV.PrintMore
attribute [local go_sem] max2_int min2_int max_two min_two max_three min_three max_four min_four   -- for this text's walks alone
set_option linter.unusedVariables false
set_option linter.unusedSimpArgs false

/-! ### spec_EarRead: function 113 -/
def spec_EarRead.f (k : Nat) (a0_0 : Int) (a0_1 : Int) (l0_2 : List Int) (l0_3 : List (S68)) (a1 : Int) : Option (Int × Int × List Int × (List (S68)) × List Int) := (spec_EarOk.f k a0_0 a0_1 l0_2 l0_3).bind fun t204 => (if t204 = true then (if a1 < 0 then (some (0, 0, ([] : List Int), ([] : List (S68)), (([] : List Int)))) else ((some (([] : List Int) : List Int)).bind fun y208 => (if 0 ≤ (mn a1 (l0_2.length : Int)) then (if (mn a1 (l0_2.length : Int)) ≤ (l0_2.length : Int) then (if y208.length + (l0_2.drop ((mn a1 (l0_2.length : Int)) : Int).toNat).length < 140737488355328 then ((some (([] : List (S68)) : List (S68))).bind fun y215 => (if y215.length + l0_3.length < 8796093022208 then ((some (([] : List Int) : List Int)).bind fun y222 => (if y222.length + (l0_2.take ((mn a1 (l0_2.length : Int)) : Int).toNat).length < 140737488355328 then (some (a0_0, a0_1, (y208 ++ (l0_2.drop ((mn a1 (l0_2.length : Int)) : Int).toNat)), (y215 ++ l0_3), (y222 ++ (l0_2.take ((mn a1 (l0_2.length : Int)) : Int).toNat)))) else (none))) else (none))) else (none)) else (none)) else (none)))) else (some (0, 0, ([] : List Int), ([] : List (S68)), (([] : List Int)))))
theorem spec_EarRead.mono : ∀ a0 a1 a2 a3 a4 k, LeO (spec_EarRead.f k a0 a1 a2 a3 a4) (spec_EarRead.f (k + 1) a0 a1 a2 a3 a4) := by
 intro a0 a1 a2 a3 a4 k
 unfold spec_EarRead.f
 repeat' first
   | (with_reducible exact spec_EarOk.mono _ _ _ _ _)
   | (with_reducible exact LeO.refl _)
   | (with_reducible exact LeO.none _)
   | (with_reducible refine LeO.ite ?_ ?_)
   | (with_reducible refine LeO.bind ?_ (fun _ => ?_))
   | exact spec_EarOk.mono _ _ _ _ _
   | exact LeO.none _
   | refine LeO.ite ?_ ?_
   | refine LeO.bind ?_ (fun _ => ?_)
def spec_EarRead.T4 : Bool × List (List Nat × List Nat) := (true, [([], []), ([0], [0]), ([], []), ([2], [2]), ([], []), ([], []), ([5], [5]), ([], []), ([6, 7], [6, 7]), ([4, 8], [4, 8]), ([], []), ([], []), ([11], [11]), ([10, 12, 9], [10, 12]), ([1, 3, 9, 13], [1, 3, 9, 13]), ([], []), ([15, 14, 13, 0, 1, 2, 3, 4, 5, 6, 7, 8, 9, 10, 11, 12, 13, 14, 15], [14, 15])])
def spec_EarRead.B4 : List Nat := [0, 1, 0, 4, 0, 0, 32, 0, 224, 496, 0, 0, 2048, 8176, 16383, 0, 65535]
theorem spec_EarRead.tab4 : rtab .any (opsOf Try.f113 4) = spec_EarRead.T4 := by kernel_rfl
theorem spec_EarRead.bits4 : waitsOk spec_EarRead.T4.2 spec_EarRead.B4 = true := by kernel_rfl
def spec_EarRead.T5 : Bool × List (List Nat × List Nat) := (true, [([], []), ([], []), ([], []), ([2], [2]), ([], []), ([3, 4], [3, 4]), ([1, 5], [1, 5]), ([0, 6, 0], [0]), ([6, 7, 0, 1, 2, 3, 4, 5, 6, 7], [6])])
def spec_EarRead.B5 : List Nat := [0, 0, 0, 4, 0, 28, 62, 127, 255]
theorem spec_EarRead.tab5 : rtab .any (opsOf Try.f113 5) = spec_EarRead.T5 := by kernel_rfl
theorem spec_EarRead.bits5 : waitsOk spec_EarRead.T5.2 spec_EarRead.B5 = true := by kernel_rfl
set_option maxHeartbeats 8000000 in
set_option maxRecDepth 100000 in
theorem spec_EarRead.calls (k : Nat) (a0_0 : Int) (a0_1 : Int) (A0_2 : Option Addr) (c0_2 : Nat) (l0_2 : List Int) (A0_3 : Option Addr) (c0_3 : Nat) (l0_3 : List (S68)) (a1 : Int) (r1 : Int) (r2 : Int) (r3 : List Int) (r4 : List (S68)) (r5 : List Int) (w : World) (hr0_2 : Kd.C (Kd.int .u8) w A0_2 l0_2.length l0_2) (hc0_2 : l0_2.length ≤ c0_2) (hr0_3 : Kd.C k68 w A0_3 l0_3.length l0_3) (hc0_3 : l0_3.length ≤ c0_3) (h : spec_EarRead.f k a0_0 a0_1 l0_2 l0_3 a1 = some (r1, r2, r3, r4, r5)) :
  Calls Try.prog 113 #[.agg #[.int .i64 a0_0, .int .i64 a0_1, .slice A0_2 l0_2.length c0_2, .slice A0_3 l0_3.length c0_3], .int .i64 a1] w fun e w' => ∃ v2_ v3_ v4_ : Value, e = .returned (.tuple #[.agg #[.int .i64 r1, .int .i64 r2, v2_, v3_], v4_]) ∧ Kd.R (Kd.int .u8) 5 w' w.heap.size (fun k_ => some k_ ≠ (v4_ : Value).ownBlock) v2_ r3 ∧ Kd.R k68 68 w' w.heap.size (fun _ => True) v3_ r4 ∧ Kd.R (Kd.int .u8) 5 w' w.heap.size (fun k_ => some k_ ≠ (v2_ : Value).ownBlock) v4_ r5 ∧ Below w.heap.size w w' := by
 have hu59 := Try.underlying59
 have HR0_2 := mk_ hr0_2
 have HC0_2 := mk_ hc0_2
 clear hr0_2 hc0_2
 have HR0_3 := mk_ hr0_3
 have HC0_3 := mk_ hc0_3
 clear hr0_3 hc0_3
 have HB := mk_ (Below.refl w.heap.size w)
 have H := h
 unfold spec_EarRead.f at H
 clear h
 replace H := Option.bind_eq_some_iff.mp H
 obtain ⟨t204, A30, H⟩ := H
 (try dsimp only at H)
 have A3 := mk_ A30
 clear A30
 by_cases c4 : t204 = true
 rotate_left
 ·replace c4 := Bool.eq_false_iff.mpr c4
  subst c4
  rw [if_neg (show ¬ (false = true) by decide)] at H
  obtain ⟨y229, hy229⟩ : ∃ y_ : List Int, y_ = (([] : List Int)) := ⟨_, rfl⟩
  replace H : (some (0, 0, ([] : List Int), ([] : List (S68)), y229)) = some (r1, r2, r3, r4, r5) := by first | (rw [hy229]; with_reducible exact H) | (have H2_ := (Option.bind_some _ _).symm.trans H; rw [hy229]; with_reducible exact H2_) | (have H2_ := (Option.bind_some _ _).symm.trans H; with_reducible exact H2_) | with_reducible exact H | (rw [hy229]; exact H) | exact H
  have Ny229 := mk_ hy229
  clear hy229
  simp only [Option.some.injEq, Prod.mk.injEq] at H
  obtain ⟨rfl, rfl, rfl, rfl, rfl⟩ := H
  go_enter Try.func113, Try.ntmps113
  go_wp2_with (first | ((with_reducible refine gate_dst (N := 2) rfl ?_); refine box_event ?hg (N := 2) ?hd (cs := #[.int .i64 a0_0, .int .i64 a0_1, .slice A0_2 l0_2.length c0_2, .slice A0_3 l0_3.length c0_3]) (t := 59) ?hr ?_; (case hd => rfl); (case hg => rfl); (case hr => first | (go_simp; done) | (go_simp; rfl)); intro gb202 hg w56 hbox hb; have n0_ := mk_ (below_step (ub_ HB.out) hb); have BK202 := mk_ (hbox); have GW202 := mk_ ((by rw [hg]; exact (below_size (ub_ HB.out)) : w.heap.size ≤ gb202)); have GE202 := ge_ ((by rw [hg]; exact (below_size (ub_ HB.out)) : w.heap.size ≤ gb202)); replace HB := n0_; clear n0_; clear hb hbox hg) | ((with_reducible refine gate_dst (N := 4) rfl ?_); refine box_event ?hg (N := 4) ?hd (cs := #[.int .i64 0, .int .i64 0, .slice none 0 0, .slice none 0 0]) (t := 59) ?hr ?_; (case hd => rfl); (case hg => rfl); (case hr => first | (go_simp; done) | (go_simp; rfl)); intro gb203 hg w57 hbox hb; have n0_ := mk_ (blk_below (u_ BK202.out) hb); have n1_ := mk_ (below_step (us_ HB.out) hb); have BK203 := mk_ (hbox); have GW203 := mk_ ((by rw [hg]; exact (below_size (us_ HB.out)) : w.heap.size ≤ gb203)); have GE203 := ge_ ((by rw [hg]; exact (below_size (us_ HB.out)) : w.heap.size ≤ gb203)); have NB202_203 := nq_ ((by rw [hg]; exact Nat.ne_of_lt (blk_lt (u_ BK202.out)) : gb202 ≠ gb203)); have NB203_202 := nq_ ((by rw [hg]; exact Nat.ne_of_gt (blk_lt (u_ BK202.out)) : gb203 ≠ gb202)); replace BK202 := n0_; replace HB := n1_; clear n0_ n1_; clear hb hbox hg; have hnb58 := NB202_203.out; have hnc58 := NB203_202.out; obtain ⟨_, _, _, _, _, _, _, _⟩ := cells4_ BK202.out) | ((with_reducible refine gate_callee (f := 33) rfl ?_); refine goesL_ (some 9) rfl rfl Try.func33 (by kernel_rfl) rfl #[.agg #[.int .i64 a0_0, .int .i64 a0_1, .slice A0_2 l0_2.length c0_2, .slice A0_3 l0_3.length c0_3]] rfl (by (try simp only [lm_, lo_, ln_]); try rfl) ?_; (with_reducible refine (spec_EarOk.calls k a0_0 a0_1 _ _ l0_2 _ _ l0_3 false _ ?side1 ?side2 ?side3 ?side4 A3.out).mono ?_); (case side1 => repeat (first | exact (Kd.C_below HR0_2.out HB.out) | (with_reducible refine Kd.C_alloc ?_ _) | (with_reducible refine Kd.C_drewN ?_ _) | (with_reducible refine Kd.C_drew ?_))); (case side2 => exact HC0_2.out); (case side3 => repeat (first | exact (Kd.C_below HR0_3.out HB.out) | (with_reducible refine Kd.C_alloc ?_ _) | (with_reducible refine Kd.C_drewN ?_ _) | (with_reducible refine Kd.C_drew ?_))); (case side4 => exact HC0_3.out); rintro e w60 ⟨rfl, hb⟩; refine ⟨_, rfl, ?_⟩; replace BK202 := mk_ (blk_below (u_ BK202.out) hb); replace BK203 := mk_ (blk_below (u_ BK203.out) hb); replace HB := mk_ (below_step (us_ HB.out) hb)) | ((with_reducible refine gate_dst (N := 16) rfl ?_); refine Kd.R_lit (Kd.int .u8) _ 5 ?hg (N := 16) ?hd (xs := ([] : List Int)) (inner := []) (ok := fun _ => True) (okp := fun _ => True) ?hr ?hp (fun _ hk => hk) trivial (Below.refl _ _) (Nat.le_refl _) (by simp) ?_; (case hd => rfl); (case hg => rfl); (case hr => first | (go_simp; done) | (go_simp; rfl)); (case hp => exact (Reps.none _ _)); intro v230 w61 ho62 hb hg_ hnew_; clear hg_ hnew_; (first | rw [← Ny229.out] at ho62 | (simp only [Int.reduceToNat] at ho62; rw [← Ny229.out] at ho62)); have HO231 := mk_ (Kd.R_lower ho62 (below_size (us_ HB.out))); replace BK202 := mk_ (blk_below (u_ BK202.out) hb); replace BK203 := mk_ (blk_below (u_ BK203.out) hb); replace HB := mk_ (below_step (us_ HB.out) hb); clear hb ho62; obtain ⟨_, _, _, _, _, _, _, _⟩ := cells4_ BK203.out))
  refine bodyPost_ret (results_ct rfl _ _ gb203 59 #[.int .i64 0, .int .i64 0, .slice none 0 0, .slice none 0 0] (0, 0) _ rfl (by (with_reducible repeat (first | refine bn_ ?_ _ | refine bw_ ?_ | refine ba_ ?_ _)); refine blk_put (cs := #[.int .i64 0, .int .i64 0, .slice none 0 0, .slice none 0 0]) ?_ 3 _ rfl; (with_reducible repeat (first | refine bn_ ?_ _ | refine bw_ ?_ | refine ba_ ?_ _)); refine blk_put (cs := #[.int .i64 0, .int .i64 0, .slice none 0 0, .slice none 0 0]) ?_ 2 _ rfl; (with_reducible repeat (first | refine bn_ ?_ _ | refine bw_ ?_ | refine ba_ ?_ _)); refine blk_put (cs := #[.int .i64 0, .int .i64 0, .slice none 0 0, .slice none 0 0]) ?_ 1 _ rfl; (with_reducible repeat (first | refine bn_ ?_ _ | refine bw_ ?_ | refine ba_ ?_ _)); refine blk_put (cs := #[.int .i64 0, .int .i64 0, .slice none 0 0, .slice none 0 0]) ?_ 0 _ rfl; (with_reducible repeat (first | refine bn_ ?_ _ | refine bw_ ?_ | refine ba_ ?_ _)); exact BK203.out) Try.underlying59 rfl (by kernel_rfl)) rfl ?_
  exact ⟨_, _, _, by first | rfl | (simp [errW_none, errW_some] <;> rfl) | (simp [*, errW_none, errW_some] <;> rfl), by first | exact Kd.R_nil _ _ _ _ _ | exact Kd.N_nil _ _ _ _ _ | exact Kd.V_nil _ _ _ _ _ | exact Kd.Q_nil _ _ _ _ _ | exact Kd.S_nil _ _ _ _ _, by first | exact Kd.R_nil _ _ _ _ _ | exact Kd.N_nil _ _ _ _ _ | exact Kd.V_nil _ _ _ _ _ | exact Kd.Q_nil _ _ _ _ _ | exact Kd.S_nil _ _ _ _ _, by (with_reducible repeat (first | apply Kd.R_alloc | apply Kd.R_drewN | apply Kd.R_drew)); exact Kd.R_mono (Kd.R_far (p := ⟨gb203, 3, none⟩) (Kd.R_far (p := ⟨gb203, 2, none⟩) (Kd.R_far (p := ⟨gb203, 1, none⟩) (Kd.R_far (p := ⟨gb203, 0, none⟩) (Kd.R_types HO231.out BK203.out (by decide)) (fun _ hk => hk.2) (.int .i64 0)) (fun _ hk => hk.2) (.int .i64 0)) (fun _ hk => hk.2) (.slice none 0 0)) (fun _ hk => hk.2) (.slice none 0 0)) (fun _ hk => (by simp [Value.ownBlock])), us_ HB.out⟩
 subst c4
 rw [if_pos rfl] at H
 by_cases c5 : a1 < 0
 ·rw [if_pos c5] at H
  have c5b0 : decide (a1 < 0) = true := decide_eq_true c5
  clear c5
  obtain ⟨y205, hy205⟩ : ∃ y_ : List Int, y_ = (([] : List Int)) := ⟨_, rfl⟩
  replace H : (some (0, 0, ([] : List Int), ([] : List (S68)), y205)) = some (r1, r2, r3, r4, r5) := by first | (rw [hy205]; with_reducible exact H) | (have H2_ := (Option.bind_some _ _).symm.trans H; rw [hy205]; with_reducible exact H2_) | (have H2_ := (Option.bind_some _ _).symm.trans H; with_reducible exact H2_) | with_reducible exact H | (rw [hy205]; exact H) | exact H
  have Ny205 := mk_ hy205
  clear hy205
  simp only [Option.some.injEq, Prod.mk.injEq] at H
  obtain ⟨rfl, rfl, rfl, rfl, rfl⟩ := H
  go_enter Try.func113, Try.ntmps113
  go_wp2_with (first | ((with_reducible refine gate_dst (N := 2) rfl ?_); refine box_event ?hg (N := 2) ?hd (cs := #[.int .i64 a0_0, .int .i64 a0_1, .slice A0_2 l0_2.length c0_2, .slice A0_3 l0_3.length c0_3]) (t := 59) ?hr ?_; (case hd => rfl); (case hg => rfl); (case hr => first | (go_simp; done) | (go_simp; rfl)); intro gb202 hg w6 hbox hb; have n0_ := mk_ (below_step (ub_ HB.out) hb); have BK202 := mk_ (hbox); have GW202 := mk_ ((by rw [hg]; exact (below_size (ub_ HB.out)) : w.heap.size ≤ gb202)); have GE202 := ge_ ((by rw [hg]; exact (below_size (ub_ HB.out)) : w.heap.size ≤ gb202)); replace HB := n0_; clear n0_; clear hb hbox hg) | ((with_reducible refine gate_dst (N := 4) rfl ?_); refine box_event ?hg (N := 4) ?hd (cs := #[.int .i64 0, .int .i64 0, .slice none 0 0, .slice none 0 0]) (t := 59) ?hr ?_; (case hd => rfl); (case hg => rfl); (case hr => first | (go_simp; done) | (go_simp; rfl)); intro gb203 hg w7 hbox hb; have n0_ := mk_ (blk_below (u_ BK202.out) hb); have n1_ := mk_ (below_step (us_ HB.out) hb); have BK203 := mk_ (hbox); have GW203 := mk_ ((by rw [hg]; exact (below_size (us_ HB.out)) : w.heap.size ≤ gb203)); have GE203 := ge_ ((by rw [hg]; exact (below_size (us_ HB.out)) : w.heap.size ≤ gb203)); have NB202_203 := nq_ ((by rw [hg]; exact Nat.ne_of_lt (blk_lt (u_ BK202.out)) : gb202 ≠ gb203)); have NB203_202 := nq_ ((by rw [hg]; exact Nat.ne_of_gt (blk_lt (u_ BK202.out)) : gb203 ≠ gb202)); replace BK202 := n0_; replace HB := n1_; clear n0_ n1_; clear hb hbox hg; have hnb8 := NB202_203.out; have hnc8 := NB203_202.out; obtain ⟨_, _, _, _, _, _, _, _⟩ := cells4_ BK202.out) | ((with_reducible refine gate_callee (f := 33) rfl ?_); refine goesL_ (some 9) rfl rfl Try.func33 (by kernel_rfl) rfl #[.agg #[.int .i64 a0_0, .int .i64 a0_1, .slice A0_2 l0_2.length c0_2, .slice A0_3 l0_3.length c0_3]] rfl (by (try simp only [lm_, lo_, ln_]); try rfl) ?_; (with_reducible refine (spec_EarOk.calls k a0_0 a0_1 _ _ l0_2 _ _ l0_3 true _ ?side1 ?side2 ?side3 ?side4 A3.out).mono ?_); (case side1 => repeat (first | exact (Kd.C_below HR0_2.out HB.out) | (with_reducible refine Kd.C_alloc ?_ _) | (with_reducible refine Kd.C_drewN ?_ _) | (with_reducible refine Kd.C_drew ?_))); (case side2 => exact HC0_2.out); (case side3 => repeat (first | exact (Kd.C_below HR0_3.out HB.out) | (with_reducible refine Kd.C_alloc ?_ _) | (with_reducible refine Kd.C_drewN ?_ _) | (with_reducible refine Kd.C_drew ?_))); (case side4 => exact HC0_3.out); rintro e w10 ⟨rfl, hb⟩; refine ⟨_, rfl, ?_⟩; replace BK202 := mk_ (blk_below (u_ BK202.out) hb); replace BK203 := mk_ (blk_below (u_ BK203.out) hb); replace HB := mk_ (below_step (us_ HB.out) hb)) | ((with_reducible refine gate_dst (N := 16) rfl ?_); refine Kd.R_lit (Kd.int .u8) _ 5 ?hg (N := 16) ?hd (xs := ([] : List Int)) (inner := []) (ok := fun _ => True) (okp := fun _ => True) ?hr ?hp (fun _ hk => hk) trivial (Below.refl _ _) (Nat.le_refl _) (by simp) ?_; (case hd => rfl); (case hg => rfl); (case hr => first | (go_simp; done) | (go_simp; rfl)); (case hp => exact (Reps.none _ _)); intro v206 w11 ho12 hb hg_ hnew_; clear hg_ hnew_; (first | rw [← Ny205.out] at ho12 | (simp only [Int.reduceToNat] at ho12; rw [← Ny205.out] at ho12)); have HO207 := mk_ (Kd.R_lower ho12 (below_size (us_ HB.out))); replace BK202 := mk_ (blk_below (u_ BK202.out) hb); replace BK203 := mk_ (blk_below (u_ BK203.out) hb); replace HB := mk_ (below_step (us_ HB.out) hb); clear hb ho12; obtain ⟨_, _, _, _, _, _, _, _⟩ := cells4_ BK203.out))
  refine bodyPost_ret (results_ct rfl _ _ gb203 59 #[.int .i64 0, .int .i64 0, .slice none 0 0, .slice none 0 0] (0, 0) _ rfl (by (with_reducible repeat (first | refine bn_ ?_ _ | refine bw_ ?_ | refine ba_ ?_ _)); refine blk_put (cs := #[.int .i64 0, .int .i64 0, .slice none 0 0, .slice none 0 0]) ?_ 3 _ rfl; (with_reducible repeat (first | refine bn_ ?_ _ | refine bw_ ?_ | refine ba_ ?_ _)); refine blk_put (cs := #[.int .i64 0, .int .i64 0, .slice none 0 0, .slice none 0 0]) ?_ 2 _ rfl; (with_reducible repeat (first | refine bn_ ?_ _ | refine bw_ ?_ | refine ba_ ?_ _)); refine blk_put (cs := #[.int .i64 0, .int .i64 0, .slice none 0 0, .slice none 0 0]) ?_ 1 _ rfl; (with_reducible repeat (first | refine bn_ ?_ _ | refine bw_ ?_ | refine ba_ ?_ _)); refine blk_put (cs := #[.int .i64 0, .int .i64 0, .slice none 0 0, .slice none 0 0]) ?_ 0 _ rfl; (with_reducible repeat (first | refine bn_ ?_ _ | refine bw_ ?_ | refine ba_ ?_ _)); exact BK203.out) Try.underlying59 rfl (by kernel_rfl)) rfl ?_
  exact ⟨_, _, _, by first | rfl | (simp [errW_none, errW_some] <;> rfl) | (simp [*, errW_none, errW_some] <;> rfl), by first | exact Kd.R_nil _ _ _ _ _ | exact Kd.N_nil _ _ _ _ _ | exact Kd.V_nil _ _ _ _ _ | exact Kd.Q_nil _ _ _ _ _ | exact Kd.S_nil _ _ _ _ _, by first | exact Kd.R_nil _ _ _ _ _ | exact Kd.N_nil _ _ _ _ _ | exact Kd.V_nil _ _ _ _ _ | exact Kd.Q_nil _ _ _ _ _ | exact Kd.S_nil _ _ _ _ _, by (with_reducible repeat (first | apply Kd.R_alloc | apply Kd.R_drewN | apply Kd.R_drew)); exact Kd.R_mono (Kd.R_far (p := ⟨gb203, 3, none⟩) (Kd.R_far (p := ⟨gb203, 2, none⟩) (Kd.R_far (p := ⟨gb203, 1, none⟩) (Kd.R_far (p := ⟨gb203, 0, none⟩) (Kd.R_types HO207.out BK203.out (by decide)) (fun _ hk => hk.2) (.int .i64 0)) (fun _ hk => hk.2) (.int .i64 0)) (fun _ hk => hk.2) (.slice none 0 0)) (fun _ hk => hk.2) (.slice none 0 0)) (fun _ hk => (by simp [Value.ownBlock])), us_ HB.out⟩
 rw [if_neg c5] at H
 have c5b0 : decide (a1 < 0) = false := decide_eq_false c5
 clear c5
 obtain ⟨ji14, hji14⟩ : ∃ j_ : Int, (mn a1 (l0_2.length : Int)) = j_ := ⟨_, rfl⟩
 replace H : ((some (([] : List Int) : List Int)).bind fun y208 => (if 0 ≤ (ji14) then (if (ji14) ≤ (l0_2.length : Int) then (if y208.length + (l0_2.drop ((ji14) : Int).toNat).length < 140737488355328 then ((some (([] : List (S68)) : List (S68))).bind fun y215 => (if y215.length + l0_3.length < 8796093022208 then ((some (([] : List Int) : List Int)).bind fun y222 => (if y222.length + (l0_2.take ((ji14) : Int).toNat).length < 140737488355328 then (some (a0_0, a0_1, (y208 ++ (l0_2.drop ((ji14) : Int).toNat)), (y215 ++ l0_3), (y222 ++ (l0_2.take ((ji14) : Int).toNat)))) else (none))) else (none))) else (none)) else (none)) else (none))) = some (r1, r2, r3, r4, r5) := by first | (rw [hji14] at H; exact H) | (simp only [hji14] at H ⊢; exact H)
 (try rw [hji14] at A3)
 have hji14_ : (if (l0_2.length : Int) < a1 then (l0_2.length : Int) else a1) = ji14 := hji14
 obtain ⟨y208, hy208⟩ : ∃ y_ : List Int, y_ = (([] : List Int)) := ⟨_, rfl⟩
 replace H : (if 0 ≤ (ji14) then (if (ji14) ≤ (l0_2.length : Int) then (if y208.length + (l0_2.drop ((ji14) : Int).toNat).length < 140737488355328 then ((some (([] : List (S68)) : List (S68))).bind fun y215 => (if y215.length + l0_3.length < 8796093022208 then ((some (([] : List Int) : List Int)).bind fun y222 => (if y222.length + (l0_2.take ((ji14) : Int).toNat).length < 140737488355328 then (some (a0_0, a0_1, (y208 ++ (l0_2.drop ((ji14) : Int).toNat)), (y215 ++ l0_3), (y222 ++ (l0_2.take ((ji14) : Int).toNat)))) else (none))) else (none))) else (none)) else (none)) else (none)) = some (r1, r2, r3, r4, r5) := by first | (rw [hy208]; with_reducible exact H) | (have H2_ := (Option.bind_some _ _).symm.trans H; rw [hy208]; with_reducible exact H2_) | (have H2_ := (Option.bind_some _ _).symm.trans H; with_reducible exact H2_) | with_reducible exact H | (rw [hy208]; exact H) | exact H
 have Ny208 := mk_ hy208
 clear hy208
 by_cases c15 : 0 ≤ (ji14)
 rotate_left
 ·rw [if_neg c15] at H
  exact absurd H (by simp)
 rw [if_pos c15] at H
 have c15b0 := eq_true c15
 have c15b1 : decide (0 ≤ (ji14)) = true := decide_eq_true c15
 clear c15
 by_cases c16 : (ji14) ≤ (l0_2.length : Int)
 rotate_left
 ·rw [if_neg c16] at H
  exact absurd H (by simp)
 rw [if_pos c16] at H
 have c16b0 := eq_true c16
 have c16b1 : decide ((ji14) ≤ (l0_2.length : Int)) = true := decide_eq_true c16
 clear c16
 by_cases c17 : y208.length + (l0_2.drop ((ji14) : Int).toNat).length < 140737488355328
 rotate_left
 ·rw [if_neg c17] at H
  exact absurd H (by simp)
 rw [if_pos c17] at H
 have LMc17 := mk_ c17
 clear c17
 obtain ⟨y212, hy212⟩ : ∃ y_ : List Int, y_ = (y208 ++ (l0_2.drop ((ji14) : Int).toNat)) := ⟨_, rfl⟩
 replace H : ((some (([] : List (S68)) : List (S68))).bind fun y215 => (if y215.length + l0_3.length < 8796093022208 then ((some (([] : List Int) : List Int)).bind fun y222 => (if y222.length + (l0_2.take ((ji14) : Int).toNat).length < 140737488355328 then (some (a0_0, a0_1, y212, (y215 ++ l0_3), (y222 ++ (l0_2.take ((ji14) : Int).toNat)))) else (none))) else (none))) = some (r1, r2, r3, r4, r5) := by first | (rw [hy212]; with_reducible exact H) | (have H2_ := (Option.bind_some _ _).symm.trans H; rw [hy212]; with_reducible exact H2_) | (have H2_ := (Option.bind_some _ _).symm.trans H; with_reducible exact H2_) | with_reducible exact H | (rw [hy212]; exact H) | exact H
 have Ny212 := mk_ hy212
 clear hy212
 obtain ⟨y215, hy215⟩ : ∃ y_ : List (S68), y_ = (([] : List (S68))) := ⟨_, rfl⟩
 replace H : (if y215.length + l0_3.length < 8796093022208 then ((some (([] : List Int) : List Int)).bind fun y222 => (if y222.length + (l0_2.take ((ji14) : Int).toNat).length < 140737488355328 then (some (a0_0, a0_1, y212, (y215 ++ l0_3), (y222 ++ (l0_2.take ((ji14) : Int).toNat)))) else (none))) else (none)) = some (r1, r2, r3, r4, r5) := by first | (rw [hy215]; with_reducible exact H) | (have H2_ := (Option.bind_some _ _).symm.trans H; rw [hy215]; with_reducible exact H2_) | (have H2_ := (Option.bind_some _ _).symm.trans H; with_reducible exact H2_) | with_reducible exact H | (rw [hy215]; exact H) | exact H
 have Ny215 := mk_ hy215
 clear hy215
 by_cases c18 : y215.length + l0_3.length < 8796093022208
 rotate_left
 ·rw [if_neg c18] at H
  exact absurd H (by simp)
 rw [if_pos c18] at H
 have LMc18 := mk_ c18
 clear c18
 obtain ⟨y218, hy218⟩ : ∃ y_ : List (S68), y_ = (y215 ++ l0_3) := ⟨_, rfl⟩
 replace H : ((some (([] : List Int) : List Int)).bind fun y222 => (if y222.length + (l0_2.take ((ji14) : Int).toNat).length < 140737488355328 then (some (a0_0, a0_1, y212, y218, (y222 ++ (l0_2.take ((ji14) : Int).toNat)))) else (none))) = some (r1, r2, r3, r4, r5) := by first | (rw [hy218]; with_reducible exact H) | (have H2_ := (Option.bind_some _ _).symm.trans H; rw [hy218]; with_reducible exact H2_) | (have H2_ := (Option.bind_some _ _).symm.trans H; with_reducible exact H2_) | with_reducible exact H | (rw [hy218]; exact H) | exact H
 have Ny218 := mk_ hy218
 clear hy218
 obtain ⟨y222, hy222⟩ : ∃ y_ : List Int, y_ = (([] : List Int)) := ⟨_, rfl⟩
 replace H : (if y222.length + (l0_2.take ((ji14) : Int).toNat).length < 140737488355328 then (some (a0_0, a0_1, y212, y218, (y222 ++ (l0_2.take ((ji14) : Int).toNat)))) else (none)) = some (r1, r2, r3, r4, r5) := by first | (rw [hy222]; with_reducible exact H) | (have H2_ := (Option.bind_some _ _).symm.trans H; rw [hy222]; with_reducible exact H2_) | (have H2_ := (Option.bind_some _ _).symm.trans H; with_reducible exact H2_) | with_reducible exact H | (rw [hy222]; exact H) | exact H
 have Ny222 := mk_ hy222
 clear hy222
 have c19b0 := eq_true (of_decide_eq_true (by first | (with_reducible assumption) | assumption) : 0 ≤ (ji14))
 have c20b0 := eq_true (of_decide_eq_true (by first | (with_reducible assumption) | assumption) : (ji14) ≤ (l0_2.length : Int))
 by_cases c21 : y222.length + (l0_2.take ((ji14) : Int).toNat).length < 140737488355328
 rotate_left
 ·rw [if_neg c21] at H
  exact absurd H (by simp)
 rw [if_pos c21] at H
 have LMc21 := mk_ c21
 clear c21
 obtain ⟨y226, hy226⟩ : ∃ y_ : List Int, y_ = (y222 ++ (l0_2.take ((ji14) : Int).toNat)) := ⟨_, rfl⟩
 replace H : (some (a0_0, a0_1, y212, y218, y226)) = some (r1, r2, r3, r4, r5) := by first | (rw [hy226]; with_reducible exact H) | (have H2_ := (Option.bind_some _ _).symm.trans H; rw [hy226]; with_reducible exact H2_) | (have H2_ := (Option.bind_some _ _).symm.trans H; with_reducible exact H2_) | with_reducible exact H | (rw [hy226]; exact H) | exact H
 have Ny226 := mk_ hy226
 clear hy226
 simp only [Option.some.injEq, Prod.mk.injEq] at H
 obtain ⟨rfl, rfl, rfl, rfl, rfl⟩ := H
 go_enter Try.func113, Try.ntmps113
 try go_wp2_with (first | ((with_reducible refine gate_dst (N := 2) rfl ?_); refine box_event ?hg (N := 2) ?hd (cs := #[.int .i64 a0_0, .int .i64 a0_1, .slice A0_2 l0_2.length c0_2, .slice A0_3 l0_3.length c0_3]) (t := 59) ?hr ?_; (case hd => rfl); (case hg => rfl); (case hr => first | (go_simp; done) | (go_simp; rfl)); intro gb202 hg w22 hbox hb; have n0_ := mk_ (below_step (ub_ HB.out) hb); have BK202 := mk_ (hbox); have GW202 := mk_ ((by rw [hg]; exact (below_size (ub_ HB.out)) : w.heap.size ≤ gb202)); have GE202 := ge_ ((by rw [hg]; exact (below_size (ub_ HB.out)) : w.heap.size ≤ gb202)); replace HB := n0_; clear n0_; clear hb hbox hg) | ((with_reducible refine gate_dst (N := 4) rfl ?_); refine box_event ?hg (N := 4) ?hd (cs := #[.int .i64 0, .int .i64 0, .slice none 0 0, .slice none 0 0]) (t := 59) ?hr ?_; (case hd => rfl); (case hg => rfl); (case hr => first | (go_simp; done) | (go_simp; rfl)); intro gb203 hg w23 hbox hb; have n0_ := mk_ (blk_below (u_ BK202.out) hb); have n1_ := mk_ (below_step (us_ HB.out) hb); have BK203 := mk_ (hbox); have GW203 := mk_ ((by rw [hg]; exact (below_size (us_ HB.out)) : w.heap.size ≤ gb203)); have GE203 := ge_ ((by rw [hg]; exact (below_size (us_ HB.out)) : w.heap.size ≤ gb203)); have NB202_203 := nq_ ((by rw [hg]; exact Nat.ne_of_lt (blk_lt (u_ BK202.out)) : gb202 ≠ gb203)); have NB203_202 := nq_ ((by rw [hg]; exact Nat.ne_of_gt (blk_lt (u_ BK202.out)) : gb203 ≠ gb202)); replace BK202 := n0_; replace HB := n1_; clear n0_ n1_; clear hb hbox hg; have hnb24 := NB202_203.out; have hnc24 := NB203_202.out; obtain ⟨_, _, _, _, _, _, _, _⟩ := cells4_ BK202.out) | ((with_reducible refine gate_callee (f := 33) rfl ?_); refine goesL_ (some 9) rfl rfl Try.func33 (by kernel_rfl) rfl #[.agg #[.int .i64 a0_0, .int .i64 a0_1, .slice A0_2 l0_2.length c0_2, .slice A0_3 l0_3.length c0_3]] rfl (by (try simp only [lm_, lo_, ln_]); try rfl) ?_; (with_reducible refine (spec_EarOk.calls k a0_0 a0_1 _ _ l0_2 _ _ l0_3 true _ ?side1 ?side2 ?side3 ?side4 A3.out).mono ?_); (case side1 => repeat (first | exact (Kd.C_below HR0_2.out HB.out) | (with_reducible refine Kd.C_alloc ?_ _) | (with_reducible refine Kd.C_drewN ?_ _) | (with_reducible refine Kd.C_drew ?_))); (case side2 => exact HC0_2.out); (case side3 => repeat (first | exact (Kd.C_below HR0_3.out HB.out) | (with_reducible refine Kd.C_alloc ?_ _) | (with_reducible refine Kd.C_drewN ?_ _) | (with_reducible refine Kd.C_drew ?_))); (case side4 => exact HC0_3.out); rintro e w26 ⟨rfl, hb⟩; refine ⟨_, rfl, ?_⟩; replace BK202 := mk_ (blk_below (u_ BK202.out) hb); replace BK203 := mk_ (blk_below (u_ BK203.out) hb); replace HB := mk_ (below_step (us_ HB.out) hb); obtain ⟨_, _, _, _, _, _, _, _⟩ := cells4_ BK202.out))
 have n0_ := mk_ (blk_drew BK202.out)
 have n1_ := mk_ (blk_drew BK203.out)
 have n2_ := mk_ (below_drew1 HB.out)
 clear BK202
 clear BK203
 clear HB
 have BK202 := n0_
 have BK203 := n1_
 have HB := n2_
 clear n0_ n1_ n2_
 obtain ⟨i029, hi029, _, hsz29, _⟩ := info_parts info5
 obtain ⟨A29, hcut29, hA29, hC29⟩ := print_drop_of (P := Try.prog) (Value.int .u8) 0 22 5 .i64 Try.underlying22 hi029 hsz29 A0_2 c0_2 l0_2 (ji14) (of_decide_eq_true (by first | (with_reducible assumption) | assumption)) (of_decide_eq_true (by first | (with_reducible assumption) | assumption)) HC0_2.out
 have HR211 := mk_ (Kd.C_of_reads (h1 := fun _ => rfl) (hA29 _ (Kd.reads_of_C HR0_2.out)))
 have HC211 := mk_ hC29
 clear hA29 hC29 hi029 hsz29
 refine start_ (n := 17) (S := fun w' => w'.cell? ⟨gb202, 0, none⟩ = some (.int .i64 a0_0) ∧ w'.cell? ⟨gb202, 1, none⟩ = some (.int .i64 a0_1) ∧ w'.cell? ⟨gb202, 2, none⟩ = some (.slice A0_2 l0_2.length c0_2) ∧ w'.cell? ⟨gb202, 3, none⟩ = some (.slice A0_3 l0_3.length c0_3)) (ds := []) #[F_, F_, F_, F_, F_, F_, F_, F_, F_, F_, F_, F_, F_, F_, F_, F_, F_] (by kernel_rfl) rfl rfl ⟨(blk_cell BK202.out 0).trans rfl, (blk_cell BK202.out 1).trans rfl, (blk_cell BK202.out 2).trans rfl, (blk_cell BK202.out 3).trans rfl⟩ (fun hHeld => ?_); refine with_tabW spec_EarRead.tab4 spec_EarRead.bits4 (fun HT_ HW_ => ?_)
 generalize w26.drew = w28 at BK202 BK203 HB HR211 hHeld ⊢
 refine pure_ (i := 0) (N := some 22) (v := ?_) (a' := ?_) #[T_, F_, F_, F_, F_, F_, F_, F_, F_, F_, F_, F_, F_, F_, F_, F_, F_] rfl rfl (any_of HT_.out (by kernel_rfl)) (fun _ _ _ h => h) (Or.inl ⟨by rfl, ?_⟩) ?_ ?_
 rotate_left
 ·intro w'
  go_simp
  with_reducible rfl
 rotate_left
 ·simp only [Act.put, la_, lz_, ls_, i64_w, i32_w]
  rfl
 refine pure_ (i := 2) (N := some 24) (v := ?_) (a' := ?_) #[T_, F_, T_, F_, F_, F_, F_, F_, F_, F_, F_, F_, F_, F_, F_, F_, F_] rfl rfl (any_of HT_.out (by kernel_rfl)) (fun _ _ _ h => h) (Or.inl ⟨by rfl, ?_⟩) ?_ ?_
 rotate_left
 ·intro w'
  go_simp
  with_reducible rfl
 rotate_left
 ·simp only [Act.put, la_, lz_, ls_, i64_w, i32_w]
  rfl
 refine pure_ (i := 5) (N := some 27) (v := ?_) (a' := ?_) #[T_, F_, T_, F_, F_, T_, F_, F_, F_, F_, F_, F_, F_, F_, F_, F_, F_] rfl rfl (any_of HT_.out (by kernel_rfl)) (fun _ _ _ h => h) (Or.inl ⟨by rfl, ?_⟩) ?_ ?_
 rotate_left
 ·intro w'
  go_simp
  with_reducible rfl
 rotate_left
 ·simp only [Act.put, la_, lz_, ls_, i64_w, i32_w]
  rfl
 refine pure_ (i := 7) (N := some 29) (v := ?_) (a' := ?_) #[T_, F_, T_, F_, F_, T_, F_, T_, F_, F_, F_, F_, F_, F_, F_, F_, F_] rfl rfl (any_of HT_.out (by kernel_rfl)) (fun _ _ _ h => h) (Or.inl ⟨by rfl, ?_⟩) ?_ ?_
 rotate_left
 ·intro w'
  go_simp
  with_reducible rfl
 rotate_left
 ·simp only [Act.put, la_, lz_, ls_, i64_w, i32_w]
  rfl
 refine pure_ (i := 11) (N := some 33) (v := ?_) (a' := ?_) #[T_, F_, T_, F_, F_, T_, F_, T_, F_, F_, F_, T_, F_, F_, F_, F_, F_] rfl rfl (any_of HT_.out (by kernel_rfl)) (fun _ _ _ h => h) (Or.inl ⟨by rfl, ?_⟩) ?_ ?_
 rotate_left
 ·intro w'
  go_simp
  with_reducible rfl
 rotate_left
 ·simp only [Act.put, la_, lz_, ls_, i64_w, i32_w]
  rfl
 refine take_ (i := 1) (N := some 23) (v := ?_) (a' := ?_) #[T_, T_, T_, F_, F_, T_, F_, T_, F_, F_, F_, T_, F_, F_, F_, F_, F_] rfl rfl (take_ofW HT_.out HW_.out (by kernel_rfl)) (fun _ _ _ h => h) (Or.inl ⟨by rfl, ?_⟩) hHeld ?_ ?_
 rotate_left
 ·rintro w' ⟨s0, s1, s2, s3⟩
  go_simp
  with_reducible rfl
 rotate_left
 ·simp only [Act.put, la_, lz_, ls_, i64_w, i32_w]
  rfl
 refine take_ (i := 3) (N := some 25) (v := ?_) (a' := ?_) #[T_, T_, T_, T_, F_, T_, F_, T_, F_, F_, F_, T_, F_, F_, F_, F_, F_] rfl rfl (take_ofW HT_.out HW_.out (by kernel_rfl)) (fun _ _ _ h => h) (Or.inl ⟨by rfl, ?_⟩) hHeld ?_ ?_
 rotate_left
 ·rintro w' ⟨s0, s1, s2, s3⟩
  go_simp
  with_reducible rfl
 rotate_left
 ·simp only [Act.put, la_, lz_, ls_, i64_w, i32_w]
  rfl
 refine take_ (i := 6) (N := some 28) (v := ?_) (a' := ?_) #[T_, T_, T_, T_, F_, T_, T_, T_, F_, F_, F_, T_, F_, F_, F_, F_, F_] rfl rfl (take_ofW HT_.out HW_.out (by kernel_rfl)) (fun _ _ _ h => h) (Or.inl ⟨by rfl, ?_⟩) hHeld ?_ ?_
 rotate_left
 ·rintro w' ⟨s0, s1, s2, s3⟩
  go_simp
  with_reducible rfl
 rotate_left
 ·simp only [Act.put, la_, lz_, ls_, i64_w, i32_w]
  rfl
 refine pure_ (i := 8) (N := some 30) (v := ?_) (a' := ?_) #[T_, T_, T_, T_, F_, T_, T_, T_, T_, F_, F_, T_, F_, F_, F_, F_, F_] rfl rfl (any_of HT_.out (by kernel_rfl)) (fun _ _ _ h => h) (Or.inl ⟨by rfl, ?_⟩) ?_ ?_
 rotate_left
 ·intro w'
  go_simp
  with_reducible rfl
 rotate_left
 ·simp only [Act.put, la_, lz_, ls_, i64_w, i32_w]
  rfl
 refine take_ (i := 12) (N := some 34) (v := ?_) (a' := ?_) #[T_, T_, T_, T_, F_, T_, T_, T_, T_, F_, F_, T_, T_, F_, F_, F_, F_] rfl rfl (take_ofW HT_.out HW_.out (by kernel_rfl)) (fun _ _ _ h => h) (Or.inl ⟨by rfl, ?_⟩) hHeld ?_ ?_
 rotate_left
 ·rintro w' ⟨s0, s1, s2, s3⟩
  go_simp
  with_reducible rfl
 rotate_left
 ·simp only [Act.put, la_, lz_, ls_, i64_w, i32_w]
  rfl
 refine join_ (σ := Value × Value × Value × Value × Nat) 1 #[T_, T_, T_, T_, T_, T_, T_, T_, T_, T_, T_, T_, T_, T_, T_, T_, F_] (fun s_ => [(26, s_.1), (31, s_.2.1), (32, s_.2.2.1), (35, s_.2.2.2.1), (7, .pointer (some ⟨s_.2.2.2.2, 0, none⟩)), (36, .agg #[.int .i64 a0_0, .int .i64 a0_1, s_.2.1, s_.2.2.2.1])]) (fun s_ w' => (w'.cell? ⟨gb202, 0, none⟩ = some (.int .i64 a0_0) ∧ w'.cell? ⟨gb202, 1, none⟩ = some (.int .i64 a0_1) ∧ w'.cell? ⟨gb202, 2, none⟩ = some (.slice A0_2 l0_2.length c0_2) ∧ w'.cell? ⟨gb202, 3, none⟩ = some (.slice A0_3 l0_3.length c0_3)) ∧ (Kd.R (Kd.int .u8) 5 w' w.heap.size (fun _ => True) s_.2.1 y212) ∧ (Kd.R k68 68 w' w.heap.size (fun _ => True) s_.2.2.2.1 y218) ∧ (w'.heap[gb202]? = some (.cells #[.int .i64 a0_0, .int .i64 a0_1, .slice A0_2 l0_2.length c0_2, .slice A0_3 l0_3.length c0_3] 59 (0, 0))) ∧ (w'.heap[gb203]? = some (.cells #[.int .i64 0, .int .i64 0, .slice none 0 0, .slice none 0 0] 59 (0, 0))) ∧ (w'.heap[s_.2.2.2.2]? = some (.cells #[.int .i64 0, .int .i64 0, .slice none 0 0, .slice none 0 0] 59 (0, 0))) ∧ (w.heap.size ≤ s_.2.2.2.2) ∧ (w.heap.size ≤ s_.2.2.2.2) ∧ (gb202 ≠ s_.2.2.2.2) ∧ (s_.2.2.2.2 ≠ gb202) ∧ (gb203 ≠ s_.2.2.2.2) ∧ (s_.2.2.2.2 ≠ gb203) ∧ (Below w.heap.size w w')) ?_ ?_
 rotate_left
 ·intro hJ4_9_10_13_15
  refine join_ (σ := Value × Value × Value × Value) 2 #[T_, T_, T_, T_, T_, T_, T_, T_, T_, T_, T_, T_, T_, T_, T_, F_, F_] (fun s_ => [(26, s_.1), (31, s_.2.1), (32, s_.2.2.1), (35, s_.2.2.2), (36, .agg #[.int .i64 a0_0, .int .i64 a0_1, s_.2.1, s_.2.2.2])]) (fun s_ w' => (w'.cell? ⟨gb202, 0, none⟩ = some (.int .i64 a0_0) ∧ w'.cell? ⟨gb202, 1, none⟩ = some (.int .i64 a0_1) ∧ w'.cell? ⟨gb202, 2, none⟩ = some (.slice A0_2 l0_2.length c0_2) ∧ w'.cell? ⟨gb202, 3, none⟩ = some (.slice A0_3 l0_3.length c0_3)) ∧ (Kd.R (Kd.int .u8) 5 w' w.heap.size (fun _ => True) s_.2.1 y212) ∧ (Kd.R k68 68 w' w.heap.size (fun _ => True) s_.2.2.2 y218) ∧ (w'.heap[gb202]? = some (.cells #[.int .i64 a0_0, .int .i64 a0_1, .slice A0_2 l0_2.length c0_2, .slice A0_3 l0_3.length c0_3] 59 (0, 0))) ∧ (w'.heap[gb203]? = some (.cells #[.int .i64 0, .int .i64 0, .slice none 0 0, .slice none 0 0] 59 (0, 0))) ∧ (Below w.heap.size w w')) ?_ ?_
  rotate_left
  ·intro hJ4_9_10_13
   refine join_ (σ := Value × Value × Value × Nat) 3 #[T_, T_, T_, T_, T_, T_, T_, T_, T_, T_, T_, T_, T_, F_, F_, T_, F_] (fun s_ => [(26, s_.1), (31, s_.2.1), (32, s_.2.2.1), (7, .pointer (some ⟨s_.2.2.2, 0, none⟩))]) (fun s_ w' => (w'.cell? ⟨gb202, 0, none⟩ = some (.int .i64 a0_0) ∧ w'.cell? ⟨gb202, 1, none⟩ = some (.int .i64 a0_1) ∧ w'.cell? ⟨gb202, 2, none⟩ = some (.slice A0_2 l0_2.length c0_2) ∧ w'.cell? ⟨gb202, 3, none⟩ = some (.slice A0_3 l0_3.length c0_3)) ∧ (Kd.R (Kd.int .u8) 5 w' w.heap.size (fun _ => True) s_.2.1 y212) ∧ (Kd.R k68 68 w' w.heap.size (fun _ => True) s_.2.2.1 y215) ∧ (w'.heap[gb202]? = some (.cells #[.int .i64 a0_0, .int .i64 a0_1, .slice A0_2 l0_2.length c0_2, .slice A0_3 l0_3.length c0_3] 59 (0, 0))) ∧ (w'.heap[gb203]? = some (.cells #[.int .i64 0, .int .i64 0, .slice none 0 0, .slice none 0 0] 59 (0, 0))) ∧ (w'.heap[s_.2.2.2]? = some (.cells #[.int .i64 0, .int .i64 0, .slice none 0 0, .slice none 0 0] 59 (0, 0))) ∧ (w.heap.size ≤ s_.2.2.2) ∧ (w.heap.size ≤ s_.2.2.2) ∧ (gb202 ≠ s_.2.2.2) ∧ (s_.2.2.2 ≠ gb202) ∧ (gb203 ≠ s_.2.2.2) ∧ (s_.2.2.2 ≠ gb203) ∧ (Below w.heap.size w w')) ?_ ?_
   rotate_left
   ·intro hJ4_9_10_15
    refine join_ (σ := Value × Value × Value) 4 #[T_, T_, T_, T_, T_, T_, T_, T_, T_, T_, T_, T_, T_, F_, F_, F_, F_] (fun s_ => [(26, s_.1), (31, s_.2.1), (32, s_.2.2)]) (fun s_ w' => (w'.cell? ⟨gb202, 0, none⟩ = some (.int .i64 a0_0) ∧ w'.cell? ⟨gb202, 1, none⟩ = some (.int .i64 a0_1) ∧ w'.cell? ⟨gb202, 2, none⟩ = some (.slice A0_2 l0_2.length c0_2) ∧ w'.cell? ⟨gb202, 3, none⟩ = some (.slice A0_3 l0_3.length c0_3)) ∧ (Kd.R (Kd.int .u8) 5 w' w.heap.size (fun _ => True) s_.2.1 y212) ∧ (Kd.R k68 68 w' w.heap.size (fun _ => True) s_.2.2 y215) ∧ (w'.heap[gb202]? = some (.cells #[.int .i64 a0_0, .int .i64 a0_1, .slice A0_2 l0_2.length c0_2, .slice A0_3 l0_3.length c0_3] 59 (0, 0))) ∧ (w'.heap[gb203]? = some (.cells #[.int .i64 0, .int .i64 0, .slice none 0 0, .slice none 0 0] 59 (0, 0))) ∧ (Below w.heap.size w w')) ?_ ?_
    rotate_left
    ·intro hJ4_9_10
     refine join_ (σ := Value × Value × Nat) 4 #[T_, T_, T_, T_, T_, T_, T_, T_, T_, T_, F_, T_, T_, F_, F_, T_, F_] (fun s_ => [(26, s_.1), (31, s_.2.1), (7, .pointer (some ⟨s_.2.2, 0, none⟩))]) (fun s_ w' => (w'.cell? ⟨gb202, 0, none⟩ = some (.int .i64 a0_0) ∧ w'.cell? ⟨gb202, 1, none⟩ = some (.int .i64 a0_1) ∧ w'.cell? ⟨gb202, 2, none⟩ = some (.slice A0_2 l0_2.length c0_2) ∧ w'.cell? ⟨gb202, 3, none⟩ = some (.slice A0_3 l0_3.length c0_3)) ∧ (Kd.R (Kd.int .u8) 5 w' w.heap.size (fun _ => True) s_.2.1 y212) ∧ (w'.heap[gb202]? = some (.cells #[.int .i64 a0_0, .int .i64 a0_1, .slice A0_2 l0_2.length c0_2, .slice A0_3 l0_3.length c0_3] 59 (0, 0))) ∧ (w'.heap[gb203]? = some (.cells #[.int .i64 0, .int .i64 0, .slice none 0 0, .slice none 0 0] 59 (0, 0))) ∧ (w'.heap[s_.2.2]? = some (.cells #[.int .i64 0, .int .i64 0, .slice none 0 0, .slice none 0 0] 59 (0, 0))) ∧ (w.heap.size ≤ s_.2.2) ∧ (w.heap.size ≤ s_.2.2) ∧ (gb202 ≠ s_.2.2) ∧ (s_.2.2 ≠ gb202) ∧ (gb203 ≠ s_.2.2) ∧ (s_.2.2 ≠ gb203) ∧ (Below w.heap.size w w')) ?_ ?_
     rotate_left
     ·intro hJ4_9_15
      refine join_ (σ := Value × Value × Nat) 4 #[T_, T_, T_, T_, T_, T_, T_, T_, T_, F_, T_, T_, T_, F_, F_, T_, F_] (fun s_ => [(26, s_.1), (32, s_.2.1), (7, .pointer (some ⟨s_.2.2, 0, none⟩))]) (fun s_ w' => (w'.cell? ⟨gb202, 0, none⟩ = some (.int .i64 a0_0) ∧ w'.cell? ⟨gb202, 1, none⟩ = some (.int .i64 a0_1) ∧ w'.cell? ⟨gb202, 2, none⟩ = some (.slice A0_2 l0_2.length c0_2) ∧ w'.cell? ⟨gb202, 3, none⟩ = some (.slice A0_3 l0_3.length c0_3)) ∧ (Kd.R (Kd.int .u8) 5 w' w.heap.size (fun _ => True) s_.1 y208) ∧ (Kd.R k68 68 w' w.heap.size (fun _ => True) s_.2.1 y215) ∧ (w'.heap[gb202]? = some (.cells #[.int .i64 a0_0, .int .i64 a0_1, .slice A0_2 l0_2.length c0_2, .slice A0_3 l0_3.length c0_3] 59 (0, 0))) ∧ (w'.heap[gb203]? = some (.cells #[.int .i64 0, .int .i64 0, .slice none 0 0, .slice none 0 0] 59 (0, 0))) ∧ (w'.heap[s_.2.2]? = some (.cells #[.int .i64 0, .int .i64 0, .slice none 0 0, .slice none 0 0] 59 (0, 0))) ∧ (w.heap.size ≤ s_.2.2) ∧ (w.heap.size ≤ s_.2.2) ∧ (gb202 ≠ s_.2.2) ∧ (s_.2.2 ≠ gb202) ∧ (gb203 ≠ s_.2.2) ∧ (s_.2.2 ≠ gb203) ∧ (Below w.heap.size w w')) ?_ ?_
      rotate_left
      ·intro hJ4_10_15
       refine join_ (σ := Value × Value) 5 #[T_, T_, T_, T_, T_, T_, T_, T_, T_, T_, F_, T_, T_, F_, F_, F_, F_] (fun s_ => [(26, s_.1), (31, s_.2)]) (fun s_ w' => (w'.cell? ⟨gb202, 0, none⟩ = some (.int .i64 a0_0) ∧ w'.cell? ⟨gb202, 1, none⟩ = some (.int .i64 a0_1) ∧ w'.cell? ⟨gb202, 2, none⟩ = some (.slice A0_2 l0_2.length c0_2) ∧ w'.cell? ⟨gb202, 3, none⟩ = some (.slice A0_3 l0_3.length c0_3)) ∧ (Kd.R (Kd.int .u8) 5 w' w.heap.size (fun _ => True) s_.2 y212) ∧ (w'.heap[gb202]? = some (.cells #[.int .i64 a0_0, .int .i64 a0_1, .slice A0_2 l0_2.length c0_2, .slice A0_3 l0_3.length c0_3] 59 (0, 0))) ∧ (w'.heap[gb203]? = some (.cells #[.int .i64 0, .int .i64 0, .slice none 0 0, .slice none 0 0] 59 (0, 0))) ∧ (Below w.heap.size w w')) ?_ ?_
       rotate_left
       ·intro hJ4_9
        refine join_ (σ := Value × Value) 5 #[T_, T_, T_, T_, T_, T_, T_, T_, T_, F_, T_, T_, T_, F_, F_, F_, F_] (fun s_ => [(26, s_.1), (32, s_.2)]) (fun s_ w' => (w'.cell? ⟨gb202, 0, none⟩ = some (.int .i64 a0_0) ∧ w'.cell? ⟨gb202, 1, none⟩ = some (.int .i64 a0_1) ∧ w'.cell? ⟨gb202, 2, none⟩ = some (.slice A0_2 l0_2.length c0_2) ∧ w'.cell? ⟨gb202, 3, none⟩ = some (.slice A0_3 l0_3.length c0_3)) ∧ (Kd.R (Kd.int .u8) 5 w' w.heap.size (fun _ => True) s_.1 y208) ∧ (Kd.R k68 68 w' w.heap.size (fun _ => True) s_.2 y215) ∧ (w'.heap[gb202]? = some (.cells #[.int .i64 a0_0, .int .i64 a0_1, .slice A0_2 l0_2.length c0_2, .slice A0_3 l0_3.length c0_3] 59 (0, 0))) ∧ (w'.heap[gb203]? = some (.cells #[.int .i64 0, .int .i64 0, .slice none 0 0, .slice none 0 0] 59 (0, 0))) ∧ (Below w.heap.size w w')) ?_ ?_
        rotate_left
        ·intro hJ4_10
         refine join_ (σ := Value × Nat) 5 #[T_, T_, T_, T_, T_, T_, T_, T_, T_, F_, F_, T_, T_, F_, F_, T_, F_] (fun s_ => [(26, s_.1), (7, .pointer (some ⟨s_.2, 0, none⟩))]) (fun s_ w' => (w'.cell? ⟨gb202, 0, none⟩ = some (.int .i64 a0_0) ∧ w'.cell? ⟨gb202, 1, none⟩ = some (.int .i64 a0_1) ∧ w'.cell? ⟨gb202, 2, none⟩ = some (.slice A0_2 l0_2.length c0_2) ∧ w'.cell? ⟨gb202, 3, none⟩ = some (.slice A0_3 l0_3.length c0_3)) ∧ (Kd.R (Kd.int .u8) 5 w' w.heap.size (fun _ => True) s_.1 y208) ∧ (w'.heap[gb202]? = some (.cells #[.int .i64 a0_0, .int .i64 a0_1, .slice A0_2 l0_2.length c0_2, .slice A0_3 l0_3.length c0_3] 59 (0, 0))) ∧ (w'.heap[gb203]? = some (.cells #[.int .i64 0, .int .i64 0, .slice none 0 0, .slice none 0 0] 59 (0, 0))) ∧ (w'.heap[s_.2]? = some (.cells #[.int .i64 0, .int .i64 0, .slice none 0 0, .slice none 0 0] 59 (0, 0))) ∧ (w.heap.size ≤ s_.2) ∧ (w.heap.size ≤ s_.2) ∧ (gb202 ≠ s_.2) ∧ (s_.2 ≠ gb202) ∧ (gb203 ≠ s_.2) ∧ (s_.2 ≠ gb203) ∧ (Below w.heap.size w w')) ?_ ?_
         rotate_left
         ·intro hJ4_15
          refine join_ (σ := Value × Nat) 5 #[T_, T_, T_, T_, F_, T_, T_, T_, T_, F_, T_, T_, T_, F_, F_, T_, F_] (fun s_ => [(32, s_.1), (7, .pointer (some ⟨s_.2, 0, none⟩))]) (fun s_ w' => (w'.cell? ⟨gb202, 0, none⟩ = some (.int .i64 a0_0) ∧ w'.cell? ⟨gb202, 1, none⟩ = some (.int .i64 a0_1) ∧ w'.cell? ⟨gb202, 2, none⟩ = some (.slice A0_2 l0_2.length c0_2) ∧ w'.cell? ⟨gb202, 3, none⟩ = some (.slice A0_3 l0_3.length c0_3)) ∧ (Kd.R k68 68 w' w.heap.size (fun _ => True) s_.1 y215) ∧ (w'.heap[gb202]? = some (.cells #[.int .i64 a0_0, .int .i64 a0_1, .slice A0_2 l0_2.length c0_2, .slice A0_3 l0_3.length c0_3] 59 (0, 0))) ∧ (w'.heap[gb203]? = some (.cells #[.int .i64 0, .int .i64 0, .slice none 0 0, .slice none 0 0] 59 (0, 0))) ∧ (w'.heap[s_.2]? = some (.cells #[.int .i64 0, .int .i64 0, .slice none 0 0, .slice none 0 0] 59 (0, 0))) ∧ (w.heap.size ≤ s_.2) ∧ (w.heap.size ≤ s_.2) ∧ (gb202 ≠ s_.2) ∧ (s_.2 ≠ gb202) ∧ (gb203 ≠ s_.2) ∧ (s_.2 ≠ gb203) ∧ (Below w.heap.size w w')) ?_ ?_
          rotate_left
          ·intro hJ10_15
           refine join_ (σ := Value) 6 #[T_, T_, T_, T_, T_, T_, T_, T_, T_, F_, F_, T_, T_, F_, F_, F_, F_] (fun s_ => [(26, s_)]) (fun s_ w' => (w'.cell? ⟨gb202, 0, none⟩ = some (.int .i64 a0_0) ∧ w'.cell? ⟨gb202, 1, none⟩ = some (.int .i64 a0_1) ∧ w'.cell? ⟨gb202, 2, none⟩ = some (.slice A0_2 l0_2.length c0_2) ∧ w'.cell? ⟨gb202, 3, none⟩ = some (.slice A0_3 l0_3.length c0_3)) ∧ (Kd.R (Kd.int .u8) 5 w' w.heap.size (fun _ => True) s_ y208) ∧ (w'.heap[gb202]? = some (.cells #[.int .i64 a0_0, .int .i64 a0_1, .slice A0_2 l0_2.length c0_2, .slice A0_3 l0_3.length c0_3] 59 (0, 0))) ∧ (w'.heap[gb203]? = some (.cells #[.int .i64 0, .int .i64 0, .slice none 0 0, .slice none 0 0] 59 (0, 0))) ∧ (Below w.heap.size w w')) ?_ ?_
           rotate_left
           ·intro hJ4
            refine join_ (σ := Value) 6 #[T_, T_, T_, T_, F_, T_, T_, T_, T_, F_, T_, T_, T_, F_, F_, F_, F_] (fun s_ => [(32, s_)]) (fun s_ w' => (w'.cell? ⟨gb202, 0, none⟩ = some (.int .i64 a0_0) ∧ w'.cell? ⟨gb202, 1, none⟩ = some (.int .i64 a0_1) ∧ w'.cell? ⟨gb202, 2, none⟩ = some (.slice A0_2 l0_2.length c0_2) ∧ w'.cell? ⟨gb202, 3, none⟩ = some (.slice A0_3 l0_3.length c0_3)) ∧ (Kd.R k68 68 w' w.heap.size (fun _ => True) s_ y215) ∧ (w'.heap[gb202]? = some (.cells #[.int .i64 a0_0, .int .i64 a0_1, .slice A0_2 l0_2.length c0_2, .slice A0_3 l0_3.length c0_3] 59 (0, 0))) ∧ (w'.heap[gb203]? = some (.cells #[.int .i64 0, .int .i64 0, .slice none 0 0, .slice none 0 0] 59 (0, 0))) ∧ (Below w.heap.size w w')) ?_ ?_
            rotate_left
            ·intro hJ10
             refine join_ (σ := Nat) 6 #[T_, T_, T_, T_, F_, T_, T_, T_, T_, F_, F_, T_, T_, F_, F_, T_, F_] (fun s_ => [(7, .pointer (some ⟨s_, 0, none⟩))]) (fun s_ w' => (w'.cell? ⟨gb202, 0, none⟩ = some (.int .i64 a0_0) ∧ w'.cell? ⟨gb202, 1, none⟩ = some (.int .i64 a0_1) ∧ w'.cell? ⟨gb202, 2, none⟩ = some (.slice A0_2 l0_2.length c0_2) ∧ w'.cell? ⟨gb202, 3, none⟩ = some (.slice A0_3 l0_3.length c0_3)) ∧ (w'.heap[gb202]? = some (.cells #[.int .i64 a0_0, .int .i64 a0_1, .slice A0_2 l0_2.length c0_2, .slice A0_3 l0_3.length c0_3] 59 (0, 0))) ∧ (w'.heap[gb203]? = some (.cells #[.int .i64 0, .int .i64 0, .slice none 0 0, .slice none 0 0] 59 (0, 0))) ∧ (w'.heap[s_]? = some (.cells #[.int .i64 0, .int .i64 0, .slice none 0 0, .slice none 0 0] 59 (0, 0))) ∧ (w.heap.size ≤ s_) ∧ (w.heap.size ≤ s_) ∧ (gb202 ≠ s_) ∧ (s_ ≠ gb202) ∧ (gb203 ≠ s_) ∧ (s_ ≠ gb203) ∧ (Below w.heap.size w w')) ?_ ?_
             rotate_left
             ·intro hJ15
              refine three_ (i := 4) (j := 10) (k := 15) (Ni := some 26) (Nj := some 32) (Nk := some 7) #[T_, T_, T_, T_, T_, T_, T_, T_, T_, F_, F_, T_, T_, F_, F_, F_, F_] #[T_, T_, T_, T_, F_, T_, T_, T_, T_, F_, T_, T_, T_, F_, F_, F_, F_] #[T_, T_, T_, T_, F_, T_, T_, T_, T_, F_, F_, T_, T_, F_, F_, T_, F_] rfl rfl rfl rfl rfl rfl (three_of HT_.out (by kernel_rfl)) (by decide) (by decide) (by decide) (fun K hK => ?_) (fun K hK => ?_) (fun K hK => ?_)
              ·skip
               refine Kd.R_lit_step (Kd.int .u8) _ 5 ?hg (N := 26) ?hd (xs := ([] : List Int)) (inner := []) (ok := fun _ => True) (okp := fun _ => True) ?hr ?hp (fun _ hk => hk) trivial (Below.refl _ _) (Nat.le_refl _) (by simp) ?_; (case hd => rfl); (case hg => rfl); (case hr => first | (go_simp; done) | (go_simp; rfl)); (case hp => exact (Reps.none _ _))
               intro v209 w30 ho31 hb hg_ hnew_
               clear hg_ hnew_
               (first | rw [← Ny208.out] at ho31 | (simp only [Int.reduceToNat] at ho31; rw [← Ny208.out] at ho31))
               have n0_ := mk_ (Kd.R_lower ho31 (below_size (us_ HB.out)))
               have n1_ := mk_ (blk_below (u_ BK202.out) hb)
               have n2_ := mk_ (blk_below (u_ BK203.out) hb)
               have n3_ := mk_ (below_step (us_ HB.out) hb)
               clear BK202
               clear BK203
               clear HB
               have HO210 := n0_
               have BK202 := n1_
               have BK203 := n2_
               have HB := n3_
               clear n0_ n1_ n2_ n3_
               clear hb ho31
               refine hK.out _ _ ⟨(blk_cell BK202.out 0).trans rfl, (blk_cell BK202.out 1).trans rfl, (blk_cell BK202.out 2).trans rfl, (blk_cell BK202.out 3).trans rfl⟩ (fun hHeld => ?_)
               clear hK K
               refine norm_ (a' := ?_) ?_ ?_
               rotate_left
               ·show Act.put _ (some 26) _ = _
                simp only [Act.put, la_, lz_, ls_, i64_w, i32_w]
                rfl
               exact norm_ (by first | (simp only [putAll, Act.put, la_, lz_, ls_]; done) | (simp only [putAll, Act.put, la_, lz_, ls_]; rfl)) (hJ4 (v209) _ ⟨hHeld, (Kd.ur_ HO210.out), (u_ BK202.out), (u_ BK203.out), (us_ HB.out)⟩)
              ·skip
               refine Kd.R_lit_step k68 _ 68 ?hg (N := 32) ?hd (xs := ([] : List (S68))) (inner := []) (ok := fun _ => True) (okp := fun _ => True) ?hr ?hp (fun _ hk => hk) trivial (Below.refl _ _) (Nat.le_refl _) (by simp) ?_; (case hd => rfl); (case hg => rfl); (case hr => first | (go_simp; done) | (go_simp; rfl)); (case hp => exact (Reps.none _ _))
               intro v216 w30 ho31 hb hg_ hnew_
               clear hg_ hnew_
               (first | rw [← Ny215.out] at ho31 | (simp only [Int.reduceToNat] at ho31; rw [← Ny215.out] at ho31))
               have n0_ := mk_ (Kd.R_lower ho31 (below_size (us_ HB.out)))
               have n1_ := mk_ (blk_below (u_ BK202.out) hb)
               have n2_ := mk_ (blk_below (u_ BK203.out) hb)
               have n3_ := mk_ (below_step (us_ HB.out) hb)
               clear BK202
               clear BK203
               clear HB
               have HO217 := n0_
               have BK202 := n1_
               have BK203 := n2_
               have HB := n3_
               clear n0_ n1_ n2_ n3_
               clear hb ho31
               refine hK.out _ _ ⟨(blk_cell BK202.out 0).trans rfl, (blk_cell BK202.out 1).trans rfl, (blk_cell BK202.out 2).trans rfl, (blk_cell BK202.out 3).trans rfl⟩ (fun hHeld => ?_)
               clear hK K
               refine norm_ (a' := ?_) ?_ ?_
               rotate_left
               ·show Act.put _ (some 32) _ = _
                simp only [Act.put, la_, lz_, ls_, i64_w, i32_w]
                rfl
               exact norm_ (by first | (simp only [putAll, Act.put, la_, lz_, ls_]; done) | (simp only [putAll, Act.put, la_, lz_, ls_]; rfl)) (hJ10 (v216) _ ⟨hHeld, (Kd.ur_ HO217.out), (u_ BK202.out), (u_ BK203.out), (us_ HB.out)⟩)
              skip
              refine box_step ?hg (N := 7) ?hd (cs := #[.int .i64 0, .int .i64 0, .slice none 0 0, .slice none 0 0]) (t := 59) ?hr ?_; (case hd => rfl); (case hg => rfl); (case hr => first | (go_simp; done) | (go_simp; rfl))
              intro gb221 hg w30 hbox hb
              have n0_ := mk_ (blk_below (u_ BK202.out) hb)
              have n1_ := mk_ (blk_below (u_ BK203.out) hb)
              have n2_ := mk_ (below_step (us_ HB.out) hb)
              have n3_ := mk_ (hbox)
              have n4_ := mk_ ((by rw [hg]; exact (below_size (us_ HB.out)) : w.heap.size ≤ gb221))
              have n5_ := mk_ ((by rw [hg]; exact (below_size (us_ HB.out)) : w.heap.size ≤ gb221))
              have n6_ := mk_ ((by rw [hg]; exact Nat.ne_of_lt (blk_lt (u_ BK202.out)) : gb202 ≠ gb221))
              have n7_ := mk_ ((by rw [hg]; exact Nat.ne_of_gt (blk_lt (u_ BK202.out)) : gb221 ≠ gb202))
              have n8_ := mk_ ((by rw [hg]; exact Nat.ne_of_lt (blk_lt (u_ BK203.out)) : gb203 ≠ gb221))
              have n9_ := mk_ ((by rw [hg]; exact Nat.ne_of_gt (blk_lt (u_ BK203.out)) : gb221 ≠ gb203))
              clear BK202
              clear BK203
              clear HB
              have BK202 := n0_
              have BK203 := n1_
              have HB := n2_
              have BK221 := n3_
              have GW221 := n4_
              have GE221 := ge_ n5_.out
              have NB202_221 := nq_ n6_.out
              have NB221_202 := nq_ n7_.out
              have NB203_221 := nq_ n8_.out
              have NB221_203 := nq_ n9_.out
              clear n0_ n1_ n2_ n3_ n4_ n5_ n6_ n7_ n8_ n9_
              clear hb hbox hg
              refine hK.out _ _ ⟨(blk_cell BK202.out 0).trans rfl, (blk_cell BK202.out 1).trans rfl, (blk_cell BK202.out 2).trans rfl, (blk_cell BK202.out 3).trans rfl⟩ (fun hHeld => ?_)
              clear hK K
              refine norm_ (a' := ?_) ?_ ?_
              rotate_left
              ·show Act.put _ (some 7) _ = _
               simp only [Act.put, la_, lz_, ls_, i64_w, i32_w]
               rfl
              exact norm_ (by first | (simp only [putAll, Act.put, la_, lz_, ls_]; done) | (simp only [putAll, Act.put, la_, lz_, ls_]; rfl)) (hJ15 (gb221) _ ⟨hHeld, (u_ BK202.out), (u_ BK203.out), (u_ BK221.out), GW221.out, GE221.out, NB202_221.out, NB221_202.out, NB203_221.out, NB221_203.out, (us_ HB.out)⟩)
             skip
             rintro gb221 w31 ⟨hS_, h0_, h1_, h2_, h3_, h4_, h5_, h6_, h7_, h8_, h9_⟩
             have n0_ : Aside0 (w31.heap[gb202]? = some (.cells #[.int .i64 a0_0, .int .i64 a0_1, .slice A0_2 l0_2.length c0_2, .slice A0_3 l0_3.length c0_3] 59 (0, 0))) := ⟨h0_⟩
             have n1_ : Aside0 (w31.heap[gb203]? = some (.cells #[.int .i64 0, .int .i64 0, .slice none 0 0, .slice none 0 0] 59 (0, 0))) := ⟨h1_⟩
             have n2_ : Aside0 (w31.heap[gb221]? = some (.cells #[.int .i64 0, .int .i64 0, .slice none 0 0, .slice none 0 0] 59 (0, 0))) := ⟨h2_⟩
             have n3_ : Aside0 (w.heap.size ≤ gb221) := ⟨h3_⟩
             have n4_ : Aside0 (w.heap.size ≤ gb221) := ⟨h4_⟩
             have n5_ : Aside0 (gb202 ≠ gb221) := ⟨h5_⟩
             have n6_ : Aside0 (gb221 ≠ gb202) := ⟨h6_⟩
             have n7_ : Aside0 (gb203 ≠ gb221) := ⟨h7_⟩
             have n8_ : Aside0 (gb221 ≠ gb203) := ⟨h8_⟩
             have n9_ : Aside0 (Below w.heap.size w w31) := ⟨h9_⟩
             clear BK202
             clear BK203
             clear HB
             clear h0_ h1_ h2_ h3_ h4_ h5_ h6_ h7_ h8_ h9_
             have BK202 := n0_
             have BK203 := n1_
             have BK221 := n2_
             have GW221 := n3_
             have GE221 := ge_ n4_.out
             have NB202_221 := nq_ n5_.out
             have NB221_202 := nq_ n6_.out
             have NB203_221 := nq_ n7_.out
             have NB221_203 := nq_ n8_.out
             have HB := n9_
             clear n0_ n1_ n2_ n3_ n4_ n5_ n6_ n7_ n8_ n9_
             have hHeld : w31.cell? ⟨gb202, 0, none⟩ = some (.int .i64 a0_0) ∧ w31.cell? ⟨gb202, 1, none⟩ = some (.int .i64 a0_1) ∧ w31.cell? ⟨gb202, 2, none⟩ = some (.slice A0_2 l0_2.length c0_2) ∧ w31.cell? ⟨gb202, 3, none⟩ = some (.slice A0_3 l0_3.length c0_3) := hS_
             refine norm_ (a' := ?_) ?_ ?_
             rotate_left
             ·simp only [putAll, Act.put, la_, lz_, ls_]
              rfl
             refine two_ (i := 4) (j := 10) (Ni := some 26) (Nj := some 32) #[T_, T_, T_, T_, T_, T_, T_, T_, T_, F_, F_, T_, T_, F_, F_, T_, F_] #[T_, T_, T_, T_, F_, T_, T_, T_, T_, F_, T_, T_, T_, F_, F_, T_, F_] rfl rfl rfl rfl (two_of HT_.out (by kernel_rfl)) (by decide) (by decide) (fun K hK => ?_) (fun K hK => ?_)
             ·skip
              refine Kd.R_lit_step (Kd.int .u8) _ 5 ?hg (N := 26) ?hd (xs := ([] : List Int)) (inner := []) (ok := fun _ => True) (okp := fun _ => True) ?hr ?hp (fun _ hk => hk) trivial (Below.refl _ _) (Nat.le_refl _) (by simp) ?_; (case hd => rfl); (case hg => rfl); (case hr => first | (go_simp; done) | (go_simp; rfl)); (case hp => exact (Reps.none _ _))
              intro v209 w32 ho33 hb hg_ hnew_
              clear hg_ hnew_
              (first | rw [← Ny208.out] at ho33 | (simp only [Int.reduceToNat] at ho33; rw [← Ny208.out] at ho33))
              have n0_ := mk_ (Kd.R_lower ho33 (below_size (us_ HB.out)))
              have n1_ := mk_ (blk_below (u_ BK202.out) hb)
              have n2_ := mk_ (blk_below (u_ BK203.out) hb)
              have n3_ := mk_ (blk_below (u_ BK221.out) hb)
              have n4_ := mk_ (below_step (us_ HB.out) hb)
              clear BK202
              clear BK203
              clear BK221
              clear HB
              have HO210 := n0_
              have BK202 := n1_
              have BK203 := n2_
              have BK221 := n3_
              have HB := n4_
              clear n0_ n1_ n2_ n3_ n4_
              clear hb ho33
              refine hK.out _ _ ⟨(blk_cell BK202.out 0).trans rfl, (blk_cell BK202.out 1).trans rfl, (blk_cell BK202.out 2).trans rfl, (blk_cell BK202.out 3).trans rfl⟩ (fun hHeld => ?_)
              clear hK K
              refine norm_ (a' := ?_) ?_ ?_
              rotate_left
              ·show Act.put _ (some 26) _ = _
               simp only [Act.put, la_, lz_, ls_, i64_w, i32_w]
               rfl
              exact norm_ (by first | (simp only [putAll, Act.put, la_, lz_, ls_]; done) | (simp only [putAll, Act.put, la_, lz_, ls_]; rfl)) (hJ4_15 (v209, gb221) _ ⟨hHeld, (Kd.ur_ HO210.out), (u_ BK202.out), (u_ BK203.out), (u_ BK221.out), GW221.out, GE221.out, NB202_221.out, NB221_202.out, NB203_221.out, NB221_203.out, (us_ HB.out)⟩)
             skip
             refine Kd.R_lit_step k68 _ 68 ?hg (N := 32) ?hd (xs := ([] : List (S68))) (inner := []) (ok := fun _ => True) (okp := fun _ => True) ?hr ?hp (fun _ hk => hk) trivial (Below.refl _ _) (Nat.le_refl _) (by simp) ?_; (case hd => rfl); (case hg => rfl); (case hr => first | (go_simp; done) | (go_simp; rfl)); (case hp => exact (Reps.none _ _))
             intro v216 w32 ho33 hb hg_ hnew_
             clear hg_ hnew_
             (first | rw [← Ny215.out] at ho33 | (simp only [Int.reduceToNat] at ho33; rw [← Ny215.out] at ho33))
             have n0_ := mk_ (Kd.R_lower ho33 (below_size (us_ HB.out)))
             have n1_ := mk_ (blk_below (u_ BK202.out) hb)
             have n2_ := mk_ (blk_below (u_ BK203.out) hb)
             have n3_ := mk_ (blk_below (u_ BK221.out) hb)
             have n4_ := mk_ (below_step (us_ HB.out) hb)
             clear BK202
             clear BK203
             clear BK221
             clear HB
             have HO217 := n0_
             have BK202 := n1_
             have BK203 := n2_
             have BK221 := n3_
             have HB := n4_
             clear n0_ n1_ n2_ n3_ n4_
             clear hb ho33
             refine hK.out _ _ ⟨(blk_cell BK202.out 0).trans rfl, (blk_cell BK202.out 1).trans rfl, (blk_cell BK202.out 2).trans rfl, (blk_cell BK202.out 3).trans rfl⟩ (fun hHeld => ?_)
             clear hK K
             refine norm_ (a' := ?_) ?_ ?_
             rotate_left
             ·show Act.put _ (some 32) _ = _
              simp only [Act.put, la_, lz_, ls_, i64_w, i32_w]
              rfl
             exact norm_ (by first | (simp only [putAll, Act.put, la_, lz_, ls_]; done) | (simp only [putAll, Act.put, la_, lz_, ls_]; rfl)) (hJ10_15 (v216, gb221) _ ⟨hHeld, (Kd.ur_ HO217.out), (u_ BK202.out), (u_ BK203.out), (u_ BK221.out), GW221.out, GE221.out, NB202_221.out, NB221_202.out, NB203_221.out, NB221_203.out, (us_ HB.out)⟩)
            skip
            rintro v216 w32 ⟨hS_, h0_, h1_, h2_, h3_⟩
            have n0_ : Aside0 (Kd.R k68 68 w32 w.heap.size (fun _ => True) v216 y215) := ⟨h0_⟩
            have n1_ : Aside0 (w32.heap[gb202]? = some (.cells #[.int .i64 a0_0, .int .i64 a0_1, .slice A0_2 l0_2.length c0_2, .slice A0_3 l0_3.length c0_3] 59 (0, 0))) := ⟨h1_⟩
            have n2_ : Aside0 (w32.heap[gb203]? = some (.cells #[.int .i64 0, .int .i64 0, .slice none 0 0, .slice none 0 0] 59 (0, 0))) := ⟨h2_⟩
            have n3_ : Aside0 (Below w.heap.size w w32) := ⟨h3_⟩
            clear BK202
            clear BK203
            clear HB
            clear h0_ h1_ h2_ h3_
            have HO217 := n0_
            have BK202 := n1_
            have BK203 := n2_
            have HB := n3_
            clear n0_ n1_ n2_ n3_
            have hHeld : w32.cell? ⟨gb202, 0, none⟩ = some (.int .i64 a0_0) ∧ w32.cell? ⟨gb202, 1, none⟩ = some (.int .i64 a0_1) ∧ w32.cell? ⟨gb202, 2, none⟩ = some (.slice A0_2 l0_2.length c0_2) ∧ w32.cell? ⟨gb202, 3, none⟩ = some (.slice A0_3 l0_3.length c0_3) := hS_
            refine norm_ (a' := ?_) ?_ ?_
            rotate_left
            ·simp only [putAll, Act.put, la_, lz_, ls_]
             rfl
            refine two_ (i := 4) (j := 15) (Ni := some 26) (Nj := some 7) #[T_, T_, T_, T_, T_, T_, T_, T_, T_, F_, T_, T_, T_, F_, F_, F_, F_] #[T_, T_, T_, T_, F_, T_, T_, T_, T_, F_, T_, T_, T_, F_, F_, T_, F_] rfl rfl rfl rfl (two_of HT_.out (by kernel_rfl)) (by decide) (by decide) (fun K hK => ?_) (fun K hK => ?_)
            ·skip
             refine Kd.R_lit_step (Kd.int .u8) _ 5 ?hg (N := 26) ?hd (xs := ([] : List Int)) (inner := []) (ok := fun _ => True) (okp := fun _ => True) ?hr ?hp (fun _ hk => hk) trivial (Below.refl _ _) (Nat.le_refl _) (by simp) ?_; (case hd => rfl); (case hg => rfl); (case hr => first | (go_simp; done) | (go_simp; rfl)); (case hp => exact (Reps.none _ _))
             intro v209 w33 ho34 hb hg_ hnew_
             clear hg_ hnew_
             (first | rw [← Ny208.out] at ho34 | (simp only [Int.reduceToNat] at ho34; rw [← Ny208.out] at ho34))
             have n0_ := mk_ (Kd.R_below (Kd.ur_ HO217.out) hb)
             have n1_ := mk_ (Kd.R_lower ho34 (below_size (us_ HB.out)))
             have n2_ := mk_ (blk_below (u_ BK202.out) hb)
             have n3_ := mk_ (blk_below (u_ BK203.out) hb)
             have n4_ := mk_ (below_step (us_ HB.out) hb)
             clear HO217
             clear BK202
             clear BK203
             clear HB
             have HO217 := n0_
             have HO210 := n1_
             have BK202 := n2_
             have BK203 := n3_
             have HB := n4_
             clear n0_ n1_ n2_ n3_ n4_
             clear hb ho34
             refine hK.out _ _ ⟨(blk_cell BK202.out 0).trans rfl, (blk_cell BK202.out 1).trans rfl, (blk_cell BK202.out 2).trans rfl, (blk_cell BK202.out 3).trans rfl⟩ (fun hHeld => ?_)
             clear hK K
             refine norm_ (a' := ?_) ?_ ?_
             rotate_left
             ·show Act.put _ (some 26) _ = _
              simp only [Act.put, la_, lz_, ls_, i64_w, i32_w]
              rfl
             exact norm_ (by first | (simp only [putAll, Act.put, la_, lz_, ls_]; done) | (simp only [putAll, Act.put, la_, lz_, ls_]; rfl)) (hJ4_10 (v209, v216) _ ⟨hHeld, (Kd.ur_ HO210.out), (Kd.ur_ HO217.out), (u_ BK202.out), (u_ BK203.out), (us_ HB.out)⟩)
            skip
            refine box_step ?hg (N := 7) ?hd (cs := #[.int .i64 0, .int .i64 0, .slice none 0 0, .slice none 0 0]) (t := 59) ?hr ?_; (case hd => rfl); (case hg => rfl); (case hr => first | (go_simp; done) | (go_simp; rfl))
            intro gb221 hg w33 hbox hb
            have n0_ := mk_ (Kd.R_below (Kd.ur_ HO217.out) hb)
            have n1_ := mk_ (blk_below (u_ BK202.out) hb)
            have n2_ := mk_ (blk_below (u_ BK203.out) hb)
            have n3_ := mk_ (below_step (us_ HB.out) hb)
            have n4_ := mk_ (hbox)
            have n5_ := mk_ ((by rw [hg]; exact (below_size (us_ HB.out)) : w.heap.size ≤ gb221))
            have n6_ := mk_ ((by rw [hg]; exact (below_size (us_ HB.out)) : w.heap.size ≤ gb221))
            have n7_ := mk_ ((by rw [hg]; exact Nat.ne_of_lt (blk_lt (u_ BK202.out)) : gb202 ≠ gb221))
            have n8_ := mk_ ((by rw [hg]; exact Nat.ne_of_gt (blk_lt (u_ BK202.out)) : gb221 ≠ gb202))
            have n9_ := mk_ ((by rw [hg]; exact Nat.ne_of_lt (blk_lt (u_ BK203.out)) : gb203 ≠ gb221))
            have n10_ := mk_ ((by rw [hg]; exact Nat.ne_of_gt (blk_lt (u_ BK203.out)) : gb221 ≠ gb203))
            clear HO217
            clear BK202
            clear BK203
            clear HB
            have HO217 := n0_
            have BK202 := n1_
            have BK203 := n2_
            have HB := n3_
            have BK221 := n4_
            have GW221 := n5_
            have GE221 := ge_ n6_.out
            have NB202_221 := nq_ n7_.out
            have NB221_202 := nq_ n8_.out
            have NB203_221 := nq_ n9_.out
            have NB221_203 := nq_ n10_.out
            clear n0_ n1_ n2_ n3_ n4_ n5_ n6_ n7_ n8_ n9_ n10_
            clear hb hbox hg
            refine hK.out _ _ ⟨(blk_cell BK202.out 0).trans rfl, (blk_cell BK202.out 1).trans rfl, (blk_cell BK202.out 2).trans rfl, (blk_cell BK202.out 3).trans rfl⟩ (fun hHeld => ?_)
            clear hK K
            refine norm_ (a' := ?_) ?_ ?_
            rotate_left
            ·show Act.put _ (some 7) _ = _
             simp only [Act.put, la_, lz_, ls_, i64_w, i32_w]
             rfl
            exact norm_ (by first | (simp only [putAll, Act.put, la_, lz_, ls_]; done) | (simp only [putAll, Act.put, la_, lz_, ls_]; rfl)) (hJ10_15 (v216, gb221) _ ⟨hHeld, (Kd.ur_ HO217.out), (u_ BK202.out), (u_ BK203.out), (u_ BK221.out), GW221.out, GE221.out, NB202_221.out, NB221_202.out, NB203_221.out, NB221_203.out, (us_ HB.out)⟩)
           skip
           rintro v209 w32 ⟨hS_, h0_, h1_, h2_, h3_⟩
           have n0_ : Aside0 (Kd.R (Kd.int .u8) 5 w32 w.heap.size (fun _ => True) v209 y208) := ⟨h0_⟩
           have n1_ : Aside0 (w32.heap[gb202]? = some (.cells #[.int .i64 a0_0, .int .i64 a0_1, .slice A0_2 l0_2.length c0_2, .slice A0_3 l0_3.length c0_3] 59 (0, 0))) := ⟨h1_⟩
           have n2_ : Aside0 (w32.heap[gb203]? = some (.cells #[.int .i64 0, .int .i64 0, .slice none 0 0, .slice none 0 0] 59 (0, 0))) := ⟨h2_⟩
           have n3_ : Aside0 (Below w.heap.size w w32) := ⟨h3_⟩
           clear BK202
           clear BK203
           clear HB
           clear h0_ h1_ h2_ h3_
           have HO210 := n0_
           have BK202 := n1_
           have BK203 := n2_
           have HB := n3_
           clear n0_ n1_ n2_ n3_
           have hHeld : w32.cell? ⟨gb202, 0, none⟩ = some (.int .i64 a0_0) ∧ w32.cell? ⟨gb202, 1, none⟩ = some (.int .i64 a0_1) ∧ w32.cell? ⟨gb202, 2, none⟩ = some (.slice A0_2 l0_2.length c0_2) ∧ w32.cell? ⟨gb202, 3, none⟩ = some (.slice A0_3 l0_3.length c0_3) := hS_
           refine norm_ (a' := ?_) ?_ ?_
           rotate_left
           ·simp only [putAll, Act.put, la_, lz_, ls_]
            rfl
           refine three_ (i := 9) (j := 10) (k := 15) (Ni := some 31) (Nj := some 32) (Nk := some 7) #[T_, T_, T_, T_, T_, T_, T_, T_, T_, T_, F_, T_, T_, F_, F_, F_, F_] #[T_, T_, T_, T_, T_, T_, T_, T_, T_, F_, T_, T_, T_, F_, F_, F_, F_] #[T_, T_, T_, T_, T_, T_, T_, T_, T_, F_, F_, T_, T_, F_, F_, T_, F_] rfl rfl rfl rfl rfl rfl (three_of HT_.out (by kernel_rfl)) (by decide) (by decide) (by decide) (fun K hK => ?_) (fun K hK => ?_) (fun K hK => ?_)
           ·skip
            refine Kd.R_append_rows_step (Kd.int .u8) (w0 := w) w.heap.size (by rfl) (.tmp 26) (.tmp 30) 22 5 (.int .u8 0) 1 rfl Try.underlying22 info5 rfl (by decide) (by omega) v209 y208 (l0_2.drop ((ji14) : Int).toNat) _ _ _ (fun _ => True) (fun _ => False) rfl rfl ?aO ?aR (fun _ _ h => h) (fun _ h => h.elim) ?aF ?aB ?aS ?aL ?_
            (case aR => first | (have e_ := (Kd.C_below HR211.out HB.out); rw [show (l0_2.drop ((ji14) : Int).toNat).length = (l0_2.length - (ji14).toNat) from List.length_drop] at e_; exact e_) | (rw [← show (l0_2.drop ((ji14) : Int).toNat).length = (l0_2.length - (ji14).toNat) from List.length_drop]; repeat (first | exact (Kd.C_below HR211.out HB.out) | (with_reducible refine Kd.C_alloc ?_ _) | (with_reducible refine Kd.C_drewN ?_ _) | (with_reducible refine Kd.C_drew ?_))) | (repeat (first | exact (Kd.C_below HR211.out HB.out) | (with_reducible refine Kd.C_alloc ?_ _) | (with_reducible refine Kd.C_drewN ?_ _) | (with_reducible refine Kd.C_drew ?_))))
            (case aB => exact (us_ HB.out))
            (case aF => exact (fun _ _ => trivial))
            (case aO => exact (Kd.ur_ HO210.out))
            (case aS => exact (below_size (us_ HB.out)))
            (case aL => have := LMc17.out; have hlx_ := (show (l0_2.drop ((ji14) : Int).toNat).length = (l0_2.length - (ji14).toNat) from List.length_drop); omega)
            intro v213 w33 ho hb hg hat
            rw [← Ny212.out] at ho
            have n0_ := mk_ (blk_grown (g := gb202) (o := .cells #[.int .i64 a0_0, .int .i64 a0_1, .slice A0_2 l0_2.length c0_2, .slice A0_3 l0_3.length c0_3] 59 (0, 0)) (u_ BK202.out) hg (Kd.R_ne HO210.out BK202.out (by decide)))
            have n1_ := mk_ (blk_grown (g := gb203) (o := .cells #[.int .i64 0, .int .i64 0, .slice none 0 0, .slice none 0 0] 59 (0, 0)) (u_ BK203.out) hg (Kd.R_ne HO210.out BK203.out (by decide)))
            have n2_ := mk_ (hb)
            have n3_ := mk_ (ho)
            clear BK202
            clear BK203
            clear HB
            clear HO210
            have BK202 := n0_
            have BK203 := n1_
            have HB := n2_
            have HO214 := n3_
            clear n0_ n1_ n2_ n3_
            clear ho hb hg hat
            refine hK.out _ _ ⟨(blk_cell BK202.out 0).trans rfl, (blk_cell BK202.out 1).trans rfl, (blk_cell BK202.out 2).trans rfl, (blk_cell BK202.out 3).trans rfl⟩ (fun hHeld => ?_)
            clear hK K
            refine norm_ (a' := ?_) ?_ ?_
            rotate_left
            ·show Act.put _ (some 31) _ = _
             simp only [Act.put, la_, lz_, ls_, i64_w, i32_w]
             rfl
            exact norm_ (by first | (simp only [putAll, Act.put, la_, lz_, ls_]; done) | (simp only [putAll, Act.put, la_, lz_, ls_]; rfl)) (hJ4_9 (v209, v213) _ ⟨hHeld, (Kd.ur_ HO214.out), (u_ BK202.out), (u_ BK203.out), (us_ HB.out)⟩)
           ·skip
            refine Kd.R_lit_step k68 _ 68 ?hg (N := 32) ?hd (xs := ([] : List (S68))) (inner := []) (ok := fun _ => True) (okp := fun _ => True) ?hr ?hp (fun _ hk => hk) trivial (Below.refl _ _) (Nat.le_refl _) (by simp) ?_; (case hd => rfl); (case hg => rfl); (case hr => first | (go_simp; done) | (go_simp; rfl)); (case hp => exact (Reps.none _ _))
            intro v216 w33 ho34 hb hg_ hnew_
            clear hg_ hnew_
            (first | rw [← Ny215.out] at ho34 | (simp only [Int.reduceToNat] at ho34; rw [← Ny215.out] at ho34))
            have n0_ := mk_ (Kd.R_below (Kd.ur_ HO210.out) hb)
            have n1_ := mk_ (Kd.R_lower ho34 (below_size (us_ HB.out)))
            have n2_ := mk_ (blk_below (u_ BK202.out) hb)
            have n3_ := mk_ (blk_below (u_ BK203.out) hb)
            have n4_ := mk_ (below_step (us_ HB.out) hb)
            clear HO210
            clear BK202
            clear BK203
            clear HB
            have HO210 := n0_
            have HO217 := n1_
            have BK202 := n2_
            have BK203 := n3_
            have HB := n4_
            clear n0_ n1_ n2_ n3_ n4_
            clear hb ho34
            refine hK.out _ _ ⟨(blk_cell BK202.out 0).trans rfl, (blk_cell BK202.out 1).trans rfl, (blk_cell BK202.out 2).trans rfl, (blk_cell BK202.out 3).trans rfl⟩ (fun hHeld => ?_)
            clear hK K
            refine norm_ (a' := ?_) ?_ ?_
            rotate_left
            ·show Act.put _ (some 32) _ = _
             simp only [Act.put, la_, lz_, ls_, i64_w, i32_w]
             rfl
            exact norm_ (by first | (simp only [putAll, Act.put, la_, lz_, ls_]; done) | (simp only [putAll, Act.put, la_, lz_, ls_]; rfl)) (hJ4_10 (v209, v216) _ ⟨hHeld, (Kd.ur_ HO210.out), (Kd.ur_ HO217.out), (u_ BK202.out), (u_ BK203.out), (us_ HB.out)⟩)
           skip
           refine box_step ?hg (N := 7) ?hd (cs := #[.int .i64 0, .int .i64 0, .slice none 0 0, .slice none 0 0]) (t := 59) ?hr ?_; (case hd => rfl); (case hg => rfl); (case hr => first | (go_simp; done) | (go_simp; rfl))
           intro gb221 hg w33 hbox hb
           have n0_ := mk_ (Kd.R_below (Kd.ur_ HO210.out) hb)
           have n1_ := mk_ (blk_below (u_ BK202.out) hb)
           have n2_ := mk_ (blk_below (u_ BK203.out) hb)
           have n3_ := mk_ (below_step (us_ HB.out) hb)
           have n4_ := mk_ (hbox)
           have n5_ := mk_ ((by rw [hg]; exact (below_size (us_ HB.out)) : w.heap.size ≤ gb221))
           have n6_ := mk_ ((by rw [hg]; exact (below_size (us_ HB.out)) : w.heap.size ≤ gb221))
           have n7_ := mk_ ((by rw [hg]; exact Nat.ne_of_lt (blk_lt (u_ BK202.out)) : gb202 ≠ gb221))
           have n8_ := mk_ ((by rw [hg]; exact Nat.ne_of_gt (blk_lt (u_ BK202.out)) : gb221 ≠ gb202))
           have n9_ := mk_ ((by rw [hg]; exact Nat.ne_of_lt (blk_lt (u_ BK203.out)) : gb203 ≠ gb221))
           have n10_ := mk_ ((by rw [hg]; exact Nat.ne_of_gt (blk_lt (u_ BK203.out)) : gb221 ≠ gb203))
           clear HO210
           clear BK202
           clear BK203
           clear HB
           have HO210 := n0_
           have BK202 := n1_
           have BK203 := n2_
           have HB := n3_
           have BK221 := n4_
           have GW221 := n5_
           have GE221 := ge_ n6_.out
           have NB202_221 := nq_ n7_.out
           have NB221_202 := nq_ n8_.out
           have NB203_221 := nq_ n9_.out
           have NB221_203 := nq_ n10_.out
           clear n0_ n1_ n2_ n3_ n4_ n5_ n6_ n7_ n8_ n9_ n10_
           clear hb hbox hg
           refine hK.out _ _ ⟨(blk_cell BK202.out 0).trans rfl, (blk_cell BK202.out 1).trans rfl, (blk_cell BK202.out 2).trans rfl, (blk_cell BK202.out 3).trans rfl⟩ (fun hHeld => ?_)
           clear hK K
           refine norm_ (a' := ?_) ?_ ?_
           rotate_left
           ·show Act.put _ (some 7) _ = _
            simp only [Act.put, la_, lz_, ls_, i64_w, i32_w]
            rfl
           exact norm_ (by first | (simp only [putAll, Act.put, la_, lz_, ls_]; done) | (simp only [putAll, Act.put, la_, lz_, ls_]; rfl)) (hJ4_15 (v209, gb221) _ ⟨hHeld, (Kd.ur_ HO210.out), (u_ BK202.out), (u_ BK203.out), (u_ BK221.out), GW221.out, GE221.out, NB202_221.out, NB221_202.out, NB203_221.out, NB221_203.out, (us_ HB.out)⟩)
          skip
          rintro ⟨v216, gb221⟩ w33 ⟨hS_, h0_, h1_, h2_, h3_, h4_, h5_, h6_, h7_, h8_, h9_, h10_⟩
          have n0_ : Aside0 (Kd.R k68 68 w33 w.heap.size (fun _ => True) v216 y215) := ⟨h0_⟩
          have n1_ : Aside0 (w33.heap[gb202]? = some (.cells #[.int .i64 a0_0, .int .i64 a0_1, .slice A0_2 l0_2.length c0_2, .slice A0_3 l0_3.length c0_3] 59 (0, 0))) := ⟨h1_⟩
          have n2_ : Aside0 (w33.heap[gb203]? = some (.cells #[.int .i64 0, .int .i64 0, .slice none 0 0, .slice none 0 0] 59 (0, 0))) := ⟨h2_⟩
          have n3_ : Aside0 (w33.heap[gb221]? = some (.cells #[.int .i64 0, .int .i64 0, .slice none 0 0, .slice none 0 0] 59 (0, 0))) := ⟨h3_⟩
          have n4_ : Aside0 (w.heap.size ≤ gb221) := ⟨h4_⟩
          have n5_ : Aside0 (w.heap.size ≤ gb221) := ⟨h5_⟩
          have n6_ : Aside0 (gb202 ≠ gb221) := ⟨h6_⟩
          have n7_ : Aside0 (gb221 ≠ gb202) := ⟨h7_⟩
          have n8_ : Aside0 (gb203 ≠ gb221) := ⟨h8_⟩
          have n9_ : Aside0 (gb221 ≠ gb203) := ⟨h9_⟩
          have n10_ : Aside0 (Below w.heap.size w w33) := ⟨h10_⟩
          clear BK202
          clear BK203
          clear HB
          clear h0_ h1_ h2_ h3_ h4_ h5_ h6_ h7_ h8_ h9_ h10_
          have HO217 := n0_
          have BK202 := n1_
          have BK203 := n2_
          have BK221 := n3_
          have GW221 := n4_
          have GE221 := ge_ n5_.out
          have NB202_221 := nq_ n6_.out
          have NB221_202 := nq_ n7_.out
          have NB203_221 := nq_ n8_.out
          have NB221_203 := nq_ n9_.out
          have HB := n10_
          clear n0_ n1_ n2_ n3_ n4_ n5_ n6_ n7_ n8_ n9_ n10_
          have hHeld : w33.cell? ⟨gb202, 0, none⟩ = some (.int .i64 a0_0) ∧ w33.cell? ⟨gb202, 1, none⟩ = some (.int .i64 a0_1) ∧ w33.cell? ⟨gb202, 2, none⟩ = some (.slice A0_2 l0_2.length c0_2) ∧ w33.cell? ⟨gb202, 3, none⟩ = some (.slice A0_3 l0_3.length c0_3) := hS_
          refine norm_ (a' := ?_) ?_ ?_
          rotate_left
          ·simp only [putAll, Act.put, la_, lz_, ls_]
           rfl
          refine one_ (i := 4) (N := some 26) #[T_, T_, T_, T_, T_, T_, T_, T_, T_, F_, T_, T_, T_, F_, F_, T_, F_] rfl rfl (one_of HT_.out (by kernel_rfl)) (by decide) (fun K hK => ?_)
          refine Kd.R_lit_step (Kd.int .u8) _ 5 ?hg (N := 26) ?hd (xs := ([] : List Int)) (inner := []) (ok := fun _ => True) (okp := fun _ => True) ?hr ?hp (fun _ hk => hk) trivial (Below.refl _ _) (Nat.le_refl _) (by simp) ?_; (case hd => rfl); (case hg => rfl); (case hr => first | (go_simp; done) | (go_simp; rfl)); (case hp => exact (Reps.none _ _))
          intro v209 w34 ho35 hb hg_ hnew_
          clear hg_ hnew_
          (first | rw [← Ny208.out] at ho35 | (simp only [Int.reduceToNat] at ho35; rw [← Ny208.out] at ho35))
          have n0_ := mk_ (Kd.R_below (Kd.ur_ HO217.out) hb)
          have n1_ := mk_ (Kd.R_lower ho35 (below_size (us_ HB.out)))
          have n2_ := mk_ (blk_below (u_ BK202.out) hb)
          have n3_ := mk_ (blk_below (u_ BK203.out) hb)
          have n4_ := mk_ (blk_below (u_ BK221.out) hb)
          have n5_ := mk_ (below_step (us_ HB.out) hb)
          clear HO217
          clear BK202
          clear BK203
          clear BK221
          clear HB
          have HO217 := n0_
          have HO210 := n1_
          have BK202 := n2_
          have BK203 := n3_
          have BK221 := n4_
          have HB := n5_
          clear n0_ n1_ n2_ n3_ n4_ n5_
          clear hb ho35
          refine hK.out _ _ ⟨(blk_cell BK202.out 0).trans rfl, (blk_cell BK202.out 1).trans rfl, (blk_cell BK202.out 2).trans rfl, (blk_cell BK202.out 3).trans rfl⟩ (fun hHeld => ?_)
          clear hK K
          refine norm_ (a' := ?_) ?_ ?_
          rotate_left
          ·show Act.put _ (some 26) _ = _
           simp only [Act.put, la_, lz_, ls_, i64_w, i32_w]
           rfl
          exact norm_ (by first | (simp only [putAll, Act.put, la_, lz_, ls_]; done) | (simp only [putAll, Act.put, la_, lz_, ls_]; rfl)) (hJ4_10_15 (v209, v216, gb221) _ ⟨hHeld, (Kd.ur_ HO210.out), (Kd.ur_ HO217.out), (u_ BK202.out), (u_ BK203.out), (u_ BK221.out), GW221.out, GE221.out, NB202_221.out, NB221_202.out, NB203_221.out, NB221_203.out, (us_ HB.out)⟩)
         skip
         rintro ⟨v209, gb221⟩ w33 ⟨hS_, h0_, h1_, h2_, h3_, h4_, h5_, h6_, h7_, h8_, h9_, h10_⟩
         have n0_ : Aside0 (Kd.R (Kd.int .u8) 5 w33 w.heap.size (fun _ => True) v209 y208) := ⟨h0_⟩
         have n1_ : Aside0 (w33.heap[gb202]? = some (.cells #[.int .i64 a0_0, .int .i64 a0_1, .slice A0_2 l0_2.length c0_2, .slice A0_3 l0_3.length c0_3] 59 (0, 0))) := ⟨h1_⟩
         have n2_ : Aside0 (w33.heap[gb203]? = some (.cells #[.int .i64 0, .int .i64 0, .slice none 0 0, .slice none 0 0] 59 (0, 0))) := ⟨h2_⟩
         have n3_ : Aside0 (w33.heap[gb221]? = some (.cells #[.int .i64 0, .int .i64 0, .slice none 0 0, .slice none 0 0] 59 (0, 0))) := ⟨h3_⟩
         have n4_ : Aside0 (w.heap.size ≤ gb221) := ⟨h4_⟩
         have n5_ : Aside0 (w.heap.size ≤ gb221) := ⟨h5_⟩
         have n6_ : Aside0 (gb202 ≠ gb221) := ⟨h6_⟩
         have n7_ : Aside0 (gb221 ≠ gb202) := ⟨h7_⟩
         have n8_ : Aside0 (gb203 ≠ gb221) := ⟨h8_⟩
         have n9_ : Aside0 (gb221 ≠ gb203) := ⟨h9_⟩
         have n10_ : Aside0 (Below w.heap.size w w33) := ⟨h10_⟩
         clear BK202
         clear BK203
         clear HB
         clear h0_ h1_ h2_ h3_ h4_ h5_ h6_ h7_ h8_ h9_ h10_
         have HO210 := n0_
         have BK202 := n1_
         have BK203 := n2_
         have BK221 := n3_
         have GW221 := n4_
         have GE221 := ge_ n5_.out
         have NB202_221 := nq_ n6_.out
         have NB221_202 := nq_ n7_.out
         have NB203_221 := nq_ n8_.out
         have NB221_203 := nq_ n9_.out
         have HB := n10_
         clear n0_ n1_ n2_ n3_ n4_ n5_ n6_ n7_ n8_ n9_ n10_
         have hHeld : w33.cell? ⟨gb202, 0, none⟩ = some (.int .i64 a0_0) ∧ w33.cell? ⟨gb202, 1, none⟩ = some (.int .i64 a0_1) ∧ w33.cell? ⟨gb202, 2, none⟩ = some (.slice A0_2 l0_2.length c0_2) ∧ w33.cell? ⟨gb202, 3, none⟩ = some (.slice A0_3 l0_3.length c0_3) := hS_
         refine norm_ (a' := ?_) ?_ ?_
         rotate_left
         ·simp only [putAll, Act.put, la_, lz_, ls_]
          rfl
         refine two_ (i := 9) (j := 10) (Ni := some 31) (Nj := some 32) #[T_, T_, T_, T_, T_, T_, T_, T_, T_, T_, F_, T_, T_, F_, F_, T_, F_] #[T_, T_, T_, T_, T_, T_, T_, T_, T_, F_, T_, T_, T_, F_, F_, T_, F_] rfl rfl rfl rfl (two_of HT_.out (by kernel_rfl)) (by decide) (by decide) (fun K hK => ?_) (fun K hK => ?_)
         ·skip
          refine Kd.R_append_rows_step (Kd.int .u8) (w0 := w) w.heap.size (by rfl) (.tmp 26) (.tmp 30) 22 5 (.int .u8 0) 1 rfl Try.underlying22 info5 rfl (by decide) (by omega) v209 y208 (l0_2.drop ((ji14) : Int).toNat) _ _ _ (fun _ => True) (fun _ => False) rfl rfl ?aO ?aR (fun _ _ h => h) (fun _ h => h.elim) ?aF ?aB ?aS ?aL ?_
          (case aR => first | (have e_ := (Kd.C_below HR211.out HB.out); rw [show (l0_2.drop ((ji14) : Int).toNat).length = (l0_2.length - (ji14).toNat) from List.length_drop] at e_; exact e_) | (rw [← show (l0_2.drop ((ji14) : Int).toNat).length = (l0_2.length - (ji14).toNat) from List.length_drop]; repeat (first | exact (Kd.C_below HR211.out HB.out) | (with_reducible refine Kd.C_alloc ?_ _) | (with_reducible refine Kd.C_drewN ?_ _) | (with_reducible refine Kd.C_drew ?_))) | (repeat (first | exact (Kd.C_below HR211.out HB.out) | (with_reducible refine Kd.C_alloc ?_ _) | (with_reducible refine Kd.C_drewN ?_ _) | (with_reducible refine Kd.C_drew ?_))))
          (case aB => exact (us_ HB.out))
          (case aF => exact (fun _ _ => trivial))
          (case aO => exact (Kd.ur_ HO210.out))
          (case aS => exact (below_size (us_ HB.out)))
          (case aL => have := LMc17.out; have hlx_ := (show (l0_2.drop ((ji14) : Int).toNat).length = (l0_2.length - (ji14).toNat) from List.length_drop); omega)
          intro v213 w34 ho hb hg hat
          rw [← Ny212.out] at ho
          have n0_ := mk_ (blk_grown (g := gb202) (o := .cells #[.int .i64 a0_0, .int .i64 a0_1, .slice A0_2 l0_2.length c0_2, .slice A0_3 l0_3.length c0_3] 59 (0, 0)) (u_ BK202.out) hg (Kd.R_ne HO210.out BK202.out (by decide)))
          have n1_ := mk_ (blk_grown (g := gb203) (o := .cells #[.int .i64 0, .int .i64 0, .slice none 0 0, .slice none 0 0] 59 (0, 0)) (u_ BK203.out) hg (Kd.R_ne HO210.out BK203.out (by decide)))
          have n2_ := mk_ (blk_grown (g := gb221) (o := .cells #[.int .i64 0, .int .i64 0, .slice none 0 0, .slice none 0 0] 59 (0, 0)) (u_ BK221.out) hg (Kd.R_ne HO210.out BK221.out (by decide)))
          have n3_ := mk_ (hb)
          have n4_ := mk_ (ho)
          clear BK202
          clear BK203
          clear BK221
          clear HB
          clear HO210
          have BK202 := n0_
          have BK203 := n1_
          have BK221 := n2_
          have HB := n3_
          have HO214 := n4_
          clear n0_ n1_ n2_ n3_ n4_
          clear ho hb hg hat
          refine hK.out _ _ ⟨(blk_cell BK202.out 0).trans rfl, (blk_cell BK202.out 1).trans rfl, (blk_cell BK202.out 2).trans rfl, (blk_cell BK202.out 3).trans rfl⟩ (fun hHeld => ?_)
          clear hK K
          refine norm_ (a' := ?_) ?_ ?_
          rotate_left
          ·show Act.put _ (some 31) _ = _
           simp only [Act.put, la_, lz_, ls_, i64_w, i32_w]
           rfl
          exact norm_ (by first | (simp only [putAll, Act.put, la_, lz_, ls_]; done) | (simp only [putAll, Act.put, la_, lz_, ls_]; rfl)) (hJ4_9_15 (v209, v213, gb221) _ ⟨hHeld, (Kd.ur_ HO214.out), (u_ BK202.out), (u_ BK203.out), (u_ BK221.out), GW221.out, GE221.out, NB202_221.out, NB221_202.out, NB203_221.out, NB221_203.out, (us_ HB.out)⟩)
         skip
         refine Kd.R_lit_step k68 _ 68 ?hg (N := 32) ?hd (xs := ([] : List (S68))) (inner := []) (ok := fun _ => True) (okp := fun _ => True) ?hr ?hp (fun _ hk => hk) trivial (Below.refl _ _) (Nat.le_refl _) (by simp) ?_; (case hd => rfl); (case hg => rfl); (case hr => first | (go_simp; done) | (go_simp; rfl)); (case hp => exact (Reps.none _ _))
         intro v216 w34 ho35 hb hg_ hnew_
         clear hg_ hnew_
         (first | rw [← Ny215.out] at ho35 | (simp only [Int.reduceToNat] at ho35; rw [← Ny215.out] at ho35))
         have n0_ := mk_ (Kd.R_below (Kd.ur_ HO210.out) hb)
         have n1_ := mk_ (Kd.R_lower ho35 (below_size (us_ HB.out)))
         have n2_ := mk_ (blk_below (u_ BK202.out) hb)
         have n3_ := mk_ (blk_below (u_ BK203.out) hb)
         have n4_ := mk_ (blk_below (u_ BK221.out) hb)
         have n5_ := mk_ (below_step (us_ HB.out) hb)
         clear HO210
         clear BK202
         clear BK203
         clear BK221
         clear HB
         have HO210 := n0_
         have HO217 := n1_
         have BK202 := n2_
         have BK203 := n3_
         have BK221 := n4_
         have HB := n5_
         clear n0_ n1_ n2_ n3_ n4_ n5_
         clear hb ho35
         refine hK.out _ _ ⟨(blk_cell BK202.out 0).trans rfl, (blk_cell BK202.out 1).trans rfl, (blk_cell BK202.out 2).trans rfl, (blk_cell BK202.out 3).trans rfl⟩ (fun hHeld => ?_)
         clear hK K
         refine norm_ (a' := ?_) ?_ ?_
         rotate_left
         ·show Act.put _ (some 32) _ = _
          simp only [Act.put, la_, lz_, ls_, i64_w, i32_w]
          rfl
         exact norm_ (by first | (simp only [putAll, Act.put, la_, lz_, ls_]; done) | (simp only [putAll, Act.put, la_, lz_, ls_]; rfl)) (hJ4_10_15 (v209, v216, gb221) _ ⟨hHeld, (Kd.ur_ HO210.out), (Kd.ur_ HO217.out), (u_ BK202.out), (u_ BK203.out), (u_ BK221.out), GW221.out, GE221.out, NB202_221.out, NB221_202.out, NB203_221.out, NB221_203.out, (us_ HB.out)⟩)
        skip
        rintro ⟨v209, v216⟩ w34 ⟨hS_, h0_, h1_, h2_, h3_, h4_⟩
        have n0_ : Aside0 (Kd.R (Kd.int .u8) 5 w34 w.heap.size (fun _ => True) v209 y208) := ⟨h0_⟩
        have n1_ : Aside0 (Kd.R k68 68 w34 w.heap.size (fun _ => True) v216 y215) := ⟨h1_⟩
        have n2_ : Aside0 (w34.heap[gb202]? = some (.cells #[.int .i64 a0_0, .int .i64 a0_1, .slice A0_2 l0_2.length c0_2, .slice A0_3 l0_3.length c0_3] 59 (0, 0))) := ⟨h2_⟩
        have n3_ : Aside0 (w34.heap[gb203]? = some (.cells #[.int .i64 0, .int .i64 0, .slice none 0 0, .slice none 0 0] 59 (0, 0))) := ⟨h3_⟩
        have n4_ : Aside0 (Below w.heap.size w w34) := ⟨h4_⟩
        clear BK202
        clear BK203
        clear HB
        clear h0_ h1_ h2_ h3_ h4_
        have HO210 := n0_
        have HO217 := n1_
        have BK202 := n2_
        have BK203 := n3_
        have HB := n4_
        clear n0_ n1_ n2_ n3_ n4_
        have hHeld : w34.cell? ⟨gb202, 0, none⟩ = some (.int .i64 a0_0) ∧ w34.cell? ⟨gb202, 1, none⟩ = some (.int .i64 a0_1) ∧ w34.cell? ⟨gb202, 2, none⟩ = some (.slice A0_2 l0_2.length c0_2) ∧ w34.cell? ⟨gb202, 3, none⟩ = some (.slice A0_3 l0_3.length c0_3) := hS_
        refine norm_ (a' := ?_) ?_ ?_
        rotate_left
        ·simp only [putAll, Act.put, la_, lz_, ls_]
         rfl
        refine two_ (i := 9) (j := 15) (Ni := some 31) (Nj := some 7) #[T_, T_, T_, T_, T_, T_, T_, T_, T_, T_, T_, T_, T_, F_, F_, F_, F_] #[T_, T_, T_, T_, T_, T_, T_, T_, T_, F_, T_, T_, T_, F_, F_, T_, F_] rfl rfl rfl rfl (two_of HT_.out (by kernel_rfl)) (by decide) (by decide) (fun K hK => ?_) (fun K hK => ?_)
        ·skip
         refine Kd.R_append_rows_step (Kd.int .u8) (w0 := w) w.heap.size (by rfl) (.tmp 26) (.tmp 30) 22 5 (.int .u8 0) 1 rfl Try.underlying22 info5 rfl (by decide) (by omega) v209 y208 (l0_2.drop ((ji14) : Int).toNat) _ _ _ (fun _ => True) (fun _ => False) rfl rfl ?aO ?aR (fun _ _ h => h) (fun _ h => h.elim) ?aF ?aB ?aS ?aL ?_
         (case aR => first | (have e_ := (Kd.C_below HR211.out HB.out); rw [show (l0_2.drop ((ji14) : Int).toNat).length = (l0_2.length - (ji14).toNat) from List.length_drop] at e_; exact e_) | (rw [← show (l0_2.drop ((ji14) : Int).toNat).length = (l0_2.length - (ji14).toNat) from List.length_drop]; repeat (first | exact (Kd.C_below HR211.out HB.out) | (with_reducible refine Kd.C_alloc ?_ _) | (with_reducible refine Kd.C_drewN ?_ _) | (with_reducible refine Kd.C_drew ?_))) | (repeat (first | exact (Kd.C_below HR211.out HB.out) | (with_reducible refine Kd.C_alloc ?_ _) | (with_reducible refine Kd.C_drewN ?_ _) | (with_reducible refine Kd.C_drew ?_))))
         (case aB => exact (us_ HB.out))
         (case aF => exact (fun _ _ => trivial))
         (case aO => exact (Kd.ur_ HO210.out))
         (case aS => exact (below_size (us_ HB.out)))
         (case aL => have := LMc17.out; have hlx_ := (show (l0_2.drop ((ji14) : Int).toNat).length = (l0_2.length - (ji14).toNat) from List.length_drop); omega)
         intro v213 w35 ho hb hg hat
         rw [← Ny212.out] at ho
         have n0_ := mk_ (blk_grown (g := gb202) (o := .cells #[.int .i64 a0_0, .int .i64 a0_1, .slice A0_2 l0_2.length c0_2, .slice A0_3 l0_3.length c0_3] 59 (0, 0)) (u_ BK202.out) hg (Kd.R_ne HO210.out BK202.out (by decide)))
         have n1_ := mk_ (blk_grown (g := gb203) (o := .cells #[.int .i64 0, .int .i64 0, .slice none 0 0, .slice none 0 0] 59 (0, 0)) (u_ BK203.out) hg (Kd.R_ne HO210.out BK203.out (by decide)))
         have n2_ := mk_ (Kd.R_over' (Kd.ur_ HO217.out) (Kd.R_typed (Kd.ur_ HO210.out)) (by decide) hg)
         have n3_ := mk_ (hb)
         have n4_ := mk_ (ho)
         clear BK202
         clear BK203
         clear HO217
         clear HB
         clear HO210
         have BK202 := n0_
         have BK203 := n1_
         have HO217 := n2_
         have HB := n3_
         have HO214 := n4_
         clear n0_ n1_ n2_ n3_ n4_
         clear ho hb hg hat
         refine hK.out _ _ ⟨(blk_cell BK202.out 0).trans rfl, (blk_cell BK202.out 1).trans rfl, (blk_cell BK202.out 2).trans rfl, (blk_cell BK202.out 3).trans rfl⟩ (fun hHeld => ?_)
         clear hK K
         refine norm_ (a' := ?_) ?_ ?_
         rotate_left
         ·show Act.put _ (some 31) _ = _
          simp only [Act.put, la_, lz_, ls_, i64_w, i32_w]
          rfl
         exact norm_ (by first | (simp only [putAll, Act.put, la_, lz_, ls_]; done) | (simp only [putAll, Act.put, la_, lz_, ls_]; rfl)) (hJ4_9_10 (v209, v213, v216) _ ⟨hHeld, (Kd.ur_ HO214.out), (Kd.ur_ HO217.out), (u_ BK202.out), (u_ BK203.out), (us_ HB.out)⟩)
        skip
        refine box_step ?hg (N := 7) ?hd (cs := #[.int .i64 0, .int .i64 0, .slice none 0 0, .slice none 0 0]) (t := 59) ?hr ?_; (case hd => rfl); (case hg => rfl); (case hr => first | (go_simp; done) | (go_simp; rfl))
        intro gb221 hg w35 hbox hb
        have n0_ := mk_ (Kd.R_below (Kd.ur_ HO210.out) hb)
        have n1_ := mk_ (Kd.R_below (Kd.ur_ HO217.out) hb)
        have n2_ := mk_ (blk_below (u_ BK202.out) hb)
        have n3_ := mk_ (blk_below (u_ BK203.out) hb)
        have n4_ := mk_ (below_step (us_ HB.out) hb)
        have n5_ := mk_ (hbox)
        have n6_ := mk_ ((by rw [hg]; exact (below_size (us_ HB.out)) : w.heap.size ≤ gb221))
        have n7_ := mk_ ((by rw [hg]; exact (below_size (us_ HB.out)) : w.heap.size ≤ gb221))
        have n8_ := mk_ ((by rw [hg]; exact Nat.ne_of_lt (blk_lt (u_ BK202.out)) : gb202 ≠ gb221))
        have n9_ := mk_ ((by rw [hg]; exact Nat.ne_of_gt (blk_lt (u_ BK202.out)) : gb221 ≠ gb202))
        have n10_ := mk_ ((by rw [hg]; exact Nat.ne_of_lt (blk_lt (u_ BK203.out)) : gb203 ≠ gb221))
        have n11_ := mk_ ((by rw [hg]; exact Nat.ne_of_gt (blk_lt (u_ BK203.out)) : gb221 ≠ gb203))
        clear HO210
        clear HO217
        clear BK202
        clear BK203
        clear HB
        have HO210 := n0_
        have HO217 := n1_
        have BK202 := n2_
        have BK203 := n3_
        have HB := n4_
        have BK221 := n5_
        have GW221 := n6_
        have GE221 := ge_ n7_.out
        have NB202_221 := nq_ n8_.out
        have NB221_202 := nq_ n9_.out
        have NB203_221 := nq_ n10_.out
        have NB221_203 := nq_ n11_.out
        clear n0_ n1_ n2_ n3_ n4_ n5_ n6_ n7_ n8_ n9_ n10_ n11_
        clear hb hbox hg
        refine hK.out _ _ ⟨(blk_cell BK202.out 0).trans rfl, (blk_cell BK202.out 1).trans rfl, (blk_cell BK202.out 2).trans rfl, (blk_cell BK202.out 3).trans rfl⟩ (fun hHeld => ?_)
        clear hK K
        refine norm_ (a' := ?_) ?_ ?_
        rotate_left
        ·show Act.put _ (some 7) _ = _
         simp only [Act.put, la_, lz_, ls_, i64_w, i32_w]
         rfl
        exact norm_ (by first | (simp only [putAll, Act.put, la_, lz_, ls_]; done) | (simp only [putAll, Act.put, la_, lz_, ls_]; rfl)) (hJ4_10_15 (v209, v216, gb221) _ ⟨hHeld, (Kd.ur_ HO210.out), (Kd.ur_ HO217.out), (u_ BK202.out), (u_ BK203.out), (u_ BK221.out), GW221.out, GE221.out, NB202_221.out, NB221_202.out, NB203_221.out, NB221_203.out, (us_ HB.out)⟩)
       skip
       rintro ⟨v209, v213⟩ w33 ⟨hS_, h0_, h1_, h2_, h3_⟩
       have n0_ : Aside0 (Kd.R (Kd.int .u8) 5 w33 w.heap.size (fun _ => True) v213 y212) := ⟨h0_⟩
       have n1_ : Aside0 (w33.heap[gb202]? = some (.cells #[.int .i64 a0_0, .int .i64 a0_1, .slice A0_2 l0_2.length c0_2, .slice A0_3 l0_3.length c0_3] 59 (0, 0))) := ⟨h1_⟩
       have n2_ : Aside0 (w33.heap[gb203]? = some (.cells #[.int .i64 0, .int .i64 0, .slice none 0 0, .slice none 0 0] 59 (0, 0))) := ⟨h2_⟩
       have n3_ : Aside0 (Below w.heap.size w w33) := ⟨h3_⟩
       clear BK202
       clear BK203
       clear HB
       clear h0_ h1_ h2_ h3_
       have HO214 := n0_
       have BK202 := n1_
       have BK203 := n2_
       have HB := n3_
       clear n0_ n1_ n2_ n3_
       have hHeld : w33.cell? ⟨gb202, 0, none⟩ = some (.int .i64 a0_0) ∧ w33.cell? ⟨gb202, 1, none⟩ = some (.int .i64 a0_1) ∧ w33.cell? ⟨gb202, 2, none⟩ = some (.slice A0_2 l0_2.length c0_2) ∧ w33.cell? ⟨gb202, 3, none⟩ = some (.slice A0_3 l0_3.length c0_3) := hS_
       refine norm_ (a' := ?_) ?_ ?_
       rotate_left
       ·simp only [putAll, Act.put, la_, lz_, ls_]
        rfl
       refine two_ (i := 10) (j := 15) (Ni := some 32) (Nj := some 7) #[T_, T_, T_, T_, T_, T_, T_, T_, T_, T_, T_, T_, T_, F_, F_, F_, F_] #[T_, T_, T_, T_, T_, T_, T_, T_, T_, T_, F_, T_, T_, F_, F_, T_, F_] rfl rfl rfl rfl (two_of HT_.out (by kernel_rfl)) (by decide) (by decide) (fun K hK => ?_) (fun K hK => ?_)
       ·skip
        refine Kd.R_lit_step k68 _ 68 ?hg (N := 32) ?hd (xs := ([] : List (S68))) (inner := []) (ok := fun _ => True) (okp := fun _ => True) ?hr ?hp (fun _ hk => hk) trivial (Below.refl _ _) (Nat.le_refl _) (by simp) ?_; (case hd => rfl); (case hg => rfl); (case hr => first | (go_simp; done) | (go_simp; rfl)); (case hp => exact (Reps.none _ _))
        intro v216 w34 ho35 hb hg_ hnew_
        clear hg_ hnew_
        (first | rw [← Ny215.out] at ho35 | (simp only [Int.reduceToNat] at ho35; rw [← Ny215.out] at ho35))
        have n0_ := mk_ (Kd.R_below (Kd.ur_ HO214.out) hb)
        have n1_ := mk_ (Kd.R_lower ho35 (below_size (us_ HB.out)))
        have n2_ := mk_ (blk_below (u_ BK202.out) hb)
        have n3_ := mk_ (blk_below (u_ BK203.out) hb)
        have n4_ := mk_ (below_step (us_ HB.out) hb)
        clear HO214
        clear BK202
        clear BK203
        clear HB
        have HO214 := n0_
        have HO217 := n1_
        have BK202 := n2_
        have BK203 := n3_
        have HB := n4_
        clear n0_ n1_ n2_ n3_ n4_
        clear hb ho35
        refine hK.out _ _ ⟨(blk_cell BK202.out 0).trans rfl, (blk_cell BK202.out 1).trans rfl, (blk_cell BK202.out 2).trans rfl, (blk_cell BK202.out 3).trans rfl⟩ (fun hHeld => ?_)
        clear hK K
        refine norm_ (a' := ?_) ?_ ?_
        rotate_left
        ·show Act.put _ (some 32) _ = _
         simp only [Act.put, la_, lz_, ls_, i64_w, i32_w]
         rfl
        exact norm_ (by first | (simp only [putAll, Act.put, la_, lz_, ls_]; done) | (simp only [putAll, Act.put, la_, lz_, ls_]; rfl)) (hJ4_9_10 (v209, v213, v216) _ ⟨hHeld, (Kd.ur_ HO214.out), (Kd.ur_ HO217.out), (u_ BK202.out), (u_ BK203.out), (us_ HB.out)⟩)
       skip
       refine box_step ?hg (N := 7) ?hd (cs := #[.int .i64 0, .int .i64 0, .slice none 0 0, .slice none 0 0]) (t := 59) ?hr ?_; (case hd => rfl); (case hg => rfl); (case hr => first | (go_simp; done) | (go_simp; rfl))
       intro gb221 hg w34 hbox hb
       have n0_ := mk_ (Kd.R_below (Kd.ur_ HO214.out) hb)
       have n1_ := mk_ (blk_below (u_ BK202.out) hb)
       have n2_ := mk_ (blk_below (u_ BK203.out) hb)
       have n3_ := mk_ (below_step (us_ HB.out) hb)
       have n4_ := mk_ (hbox)
       have n5_ := mk_ ((by rw [hg]; exact (below_size (us_ HB.out)) : w.heap.size ≤ gb221))
       have n6_ := mk_ ((by rw [hg]; exact (below_size (us_ HB.out)) : w.heap.size ≤ gb221))
       have n7_ := mk_ ((by rw [hg]; exact Nat.ne_of_lt (blk_lt (u_ BK202.out)) : gb202 ≠ gb221))
       have n8_ := mk_ ((by rw [hg]; exact Nat.ne_of_gt (blk_lt (u_ BK202.out)) : gb221 ≠ gb202))
       have n9_ := mk_ ((by rw [hg]; exact Nat.ne_of_lt (blk_lt (u_ BK203.out)) : gb203 ≠ gb221))
       have n10_ := mk_ ((by rw [hg]; exact Nat.ne_of_gt (blk_lt (u_ BK203.out)) : gb221 ≠ gb203))
       clear HO214
       clear BK202
       clear BK203
       clear HB
       have HO214 := n0_
       have BK202 := n1_
       have BK203 := n2_
       have HB := n3_
       have BK221 := n4_
       have GW221 := n5_
       have GE221 := ge_ n6_.out
       have NB202_221 := nq_ n7_.out
       have NB221_202 := nq_ n8_.out
       have NB203_221 := nq_ n9_.out
       have NB221_203 := nq_ n10_.out
       clear n0_ n1_ n2_ n3_ n4_ n5_ n6_ n7_ n8_ n9_ n10_
       clear hb hbox hg
       refine hK.out _ _ ⟨(blk_cell BK202.out 0).trans rfl, (blk_cell BK202.out 1).trans rfl, (blk_cell BK202.out 2).trans rfl, (blk_cell BK202.out 3).trans rfl⟩ (fun hHeld => ?_)
       clear hK K
       refine norm_ (a' := ?_) ?_ ?_
       rotate_left
       ·show Act.put _ (some 7) _ = _
        simp only [Act.put, la_, lz_, ls_, i64_w, i32_w]
        rfl
       exact norm_ (by first | (simp only [putAll, Act.put, la_, lz_, ls_]; done) | (simp only [putAll, Act.put, la_, lz_, ls_]; rfl)) (hJ4_9_15 (v209, v213, gb221) _ ⟨hHeld, (Kd.ur_ HO214.out), (u_ BK202.out), (u_ BK203.out), (u_ BK221.out), GW221.out, GE221.out, NB202_221.out, NB221_202.out, NB203_221.out, NB221_203.out, (us_ HB.out)⟩)
      skip
      rintro ⟨v209, v216, gb221⟩ w35 ⟨hS_, h0_, h1_, h2_, h3_, h4_, h5_, h6_, h7_, h8_, h9_, h10_, h11_⟩
      have n0_ : Aside0 (Kd.R (Kd.int .u8) 5 w35 w.heap.size (fun _ => True) v209 y208) := ⟨h0_⟩
      have n1_ : Aside0 (Kd.R k68 68 w35 w.heap.size (fun _ => True) v216 y215) := ⟨h1_⟩
      have n2_ : Aside0 (w35.heap[gb202]? = some (.cells #[.int .i64 a0_0, .int .i64 a0_1, .slice A0_2 l0_2.length c0_2, .slice A0_3 l0_3.length c0_3] 59 (0, 0))) := ⟨h2_⟩
      have n3_ : Aside0 (w35.heap[gb203]? = some (.cells #[.int .i64 0, .int .i64 0, .slice none 0 0, .slice none 0 0] 59 (0, 0))) := ⟨h3_⟩
      have n4_ : Aside0 (w35.heap[gb221]? = some (.cells #[.int .i64 0, .int .i64 0, .slice none 0 0, .slice none 0 0] 59 (0, 0))) := ⟨h4_⟩
      have n5_ : Aside0 (w.heap.size ≤ gb221) := ⟨h5_⟩
      have n6_ : Aside0 (w.heap.size ≤ gb221) := ⟨h6_⟩
      have n7_ : Aside0 (gb202 ≠ gb221) := ⟨h7_⟩
      have n8_ : Aside0 (gb221 ≠ gb202) := ⟨h8_⟩
      have n9_ : Aside0 (gb203 ≠ gb221) := ⟨h9_⟩
      have n10_ : Aside0 (gb221 ≠ gb203) := ⟨h10_⟩
      have n11_ : Aside0 (Below w.heap.size w w35) := ⟨h11_⟩
      clear BK202
      clear BK203
      clear HB
      clear h0_ h1_ h2_ h3_ h4_ h5_ h6_ h7_ h8_ h9_ h10_ h11_
      have HO210 := n0_
      have HO217 := n1_
      have BK202 := n2_
      have BK203 := n3_
      have BK221 := n4_
      have GW221 := n5_
      have GE221 := ge_ n6_.out
      have NB202_221 := nq_ n7_.out
      have NB221_202 := nq_ n8_.out
      have NB203_221 := nq_ n9_.out
      have NB221_203 := nq_ n10_.out
      have HB := n11_
      clear n0_ n1_ n2_ n3_ n4_ n5_ n6_ n7_ n8_ n9_ n10_ n11_
      have hHeld : w35.cell? ⟨gb202, 0, none⟩ = some (.int .i64 a0_0) ∧ w35.cell? ⟨gb202, 1, none⟩ = some (.int .i64 a0_1) ∧ w35.cell? ⟨gb202, 2, none⟩ = some (.slice A0_2 l0_2.length c0_2) ∧ w35.cell? ⟨gb202, 3, none⟩ = some (.slice A0_3 l0_3.length c0_3) := hS_
      refine norm_ (a' := ?_) ?_ ?_
      rotate_left
      ·simp only [putAll, Act.put, la_, lz_, ls_]
       rfl
      refine one_ (i := 9) (N := some 31) #[T_, T_, T_, T_, T_, T_, T_, T_, T_, T_, T_, T_, T_, F_, F_, T_, F_] rfl rfl (one_of HT_.out (by kernel_rfl)) (by decide) (fun K hK => ?_)
      refine Kd.R_append_rows_step (Kd.int .u8) (w0 := w) w.heap.size (by rfl) (.tmp 26) (.tmp 30) 22 5 (.int .u8 0) 1 rfl Try.underlying22 info5 rfl (by decide) (by omega) v209 y208 (l0_2.drop ((ji14) : Int).toNat) _ _ _ (fun _ => True) (fun _ => False) rfl rfl ?aO ?aR (fun _ _ h => h) (fun _ h => h.elim) ?aF ?aB ?aS ?aL ?_
      (case aR => first | (have e_ := (Kd.C_below HR211.out HB.out); rw [show (l0_2.drop ((ji14) : Int).toNat).length = (l0_2.length - (ji14).toNat) from List.length_drop] at e_; exact e_) | (rw [← show (l0_2.drop ((ji14) : Int).toNat).length = (l0_2.length - (ji14).toNat) from List.length_drop]; repeat (first | exact (Kd.C_below HR211.out HB.out) | (with_reducible refine Kd.C_alloc ?_ _) | (with_reducible refine Kd.C_drewN ?_ _) | (with_reducible refine Kd.C_drew ?_))) | (repeat (first | exact (Kd.C_below HR211.out HB.out) | (with_reducible refine Kd.C_alloc ?_ _) | (with_reducible refine Kd.C_drewN ?_ _) | (with_reducible refine Kd.C_drew ?_))))
      (case aB => exact (us_ HB.out))
      (case aF => exact (fun _ _ => trivial))
      (case aO => exact (Kd.ur_ HO210.out))
      (case aS => exact (below_size (us_ HB.out)))
      (case aL => have := LMc17.out; have hlx_ := (show (l0_2.drop ((ji14) : Int).toNat).length = (l0_2.length - (ji14).toNat) from List.length_drop); omega)
      intro v213 w36 ho hb hg hat
      rw [← Ny212.out] at ho
      have n0_ := mk_ (blk_grown (g := gb202) (o := .cells #[.int .i64 a0_0, .int .i64 a0_1, .slice A0_2 l0_2.length c0_2, .slice A0_3 l0_3.length c0_3] 59 (0, 0)) (u_ BK202.out) hg (Kd.R_ne HO210.out BK202.out (by decide)))
      have n1_ := mk_ (blk_grown (g := gb203) (o := .cells #[.int .i64 0, .int .i64 0, .slice none 0 0, .slice none 0 0] 59 (0, 0)) (u_ BK203.out) hg (Kd.R_ne HO210.out BK203.out (by decide)))
      have n2_ := mk_ (Kd.R_over' (Kd.ur_ HO217.out) (Kd.R_typed (Kd.ur_ HO210.out)) (by decide) hg)
      have n3_ := mk_ (blk_grown (g := gb221) (o := .cells #[.int .i64 0, .int .i64 0, .slice none 0 0, .slice none 0 0] 59 (0, 0)) (u_ BK221.out) hg (Kd.R_ne HO210.out BK221.out (by decide)))
      have n4_ := mk_ (hb)
      have n5_ := mk_ (ho)
      clear BK202
      clear BK203
      clear HO217
      clear BK221
      clear HB
      clear HO210
      have BK202 := n0_
      have BK203 := n1_
      have HO217 := n2_
      have BK221 := n3_
      have HB := n4_
      have HO214 := n5_
      clear n0_ n1_ n2_ n3_ n4_ n5_
      clear ho hb hg hat
      refine hK.out _ _ ⟨(blk_cell BK202.out 0).trans rfl, (blk_cell BK202.out 1).trans rfl, (blk_cell BK202.out 2).trans rfl, (blk_cell BK202.out 3).trans rfl⟩ (fun hHeld => ?_)
      clear hK K
      refine norm_ (a' := ?_) ?_ ?_
      rotate_left
      ·show Act.put _ (some 31) _ = _
       simp only [Act.put, la_, lz_, ls_, i64_w, i32_w]
       rfl
      exact norm_ (by first | (simp only [putAll, Act.put, la_, lz_, ls_]; done) | (simp only [putAll, Act.put, la_, lz_, ls_]; rfl)) (hJ4_9_10_15 (v209, v213, v216, gb221) _ ⟨hHeld, (Kd.ur_ HO214.out), (Kd.ur_ HO217.out), (u_ BK202.out), (u_ BK203.out), (u_ BK221.out), GW221.out, GE221.out, NB202_221.out, NB221_202.out, NB203_221.out, NB221_203.out, (us_ HB.out)⟩)
     skip
     rintro ⟨v209, v213, gb221⟩ w34 ⟨hS_, h0_, h1_, h2_, h3_, h4_, h5_, h6_, h7_, h8_, h9_, h10_⟩
     have n0_ : Aside0 (Kd.R (Kd.int .u8) 5 w34 w.heap.size (fun _ => True) v213 y212) := ⟨h0_⟩
     have n1_ : Aside0 (w34.heap[gb202]? = some (.cells #[.int .i64 a0_0, .int .i64 a0_1, .slice A0_2 l0_2.length c0_2, .slice A0_3 l0_3.length c0_3] 59 (0, 0))) := ⟨h1_⟩
     have n2_ : Aside0 (w34.heap[gb203]? = some (.cells #[.int .i64 0, .int .i64 0, .slice none 0 0, .slice none 0 0] 59 (0, 0))) := ⟨h2_⟩
     have n3_ : Aside0 (w34.heap[gb221]? = some (.cells #[.int .i64 0, .int .i64 0, .slice none 0 0, .slice none 0 0] 59 (0, 0))) := ⟨h3_⟩
     have n4_ : Aside0 (w.heap.size ≤ gb221) := ⟨h4_⟩
     have n5_ : Aside0 (w.heap.size ≤ gb221) := ⟨h5_⟩
     have n6_ : Aside0 (gb202 ≠ gb221) := ⟨h6_⟩
     have n7_ : Aside0 (gb221 ≠ gb202) := ⟨h7_⟩
     have n8_ : Aside0 (gb203 ≠ gb221) := ⟨h8_⟩
     have n9_ : Aside0 (gb221 ≠ gb203) := ⟨h9_⟩
     have n10_ : Aside0 (Below w.heap.size w w34) := ⟨h10_⟩
     clear BK202
     clear BK203
     clear HB
     clear h0_ h1_ h2_ h3_ h4_ h5_ h6_ h7_ h8_ h9_ h10_
     have HO214 := n0_
     have BK202 := n1_
     have BK203 := n2_
     have BK221 := n3_
     have GW221 := n4_
     have GE221 := ge_ n5_.out
     have NB202_221 := nq_ n6_.out
     have NB221_202 := nq_ n7_.out
     have NB203_221 := nq_ n8_.out
     have NB221_203 := nq_ n9_.out
     have HB := n10_
     clear n0_ n1_ n2_ n3_ n4_ n5_ n6_ n7_ n8_ n9_ n10_
     have hHeld : w34.cell? ⟨gb202, 0, none⟩ = some (.int .i64 a0_0) ∧ w34.cell? ⟨gb202, 1, none⟩ = some (.int .i64 a0_1) ∧ w34.cell? ⟨gb202, 2, none⟩ = some (.slice A0_2 l0_2.length c0_2) ∧ w34.cell? ⟨gb202, 3, none⟩ = some (.slice A0_3 l0_3.length c0_3) := hS_
     refine norm_ (a' := ?_) ?_ ?_
     rotate_left
     ·simp only [putAll, Act.put, la_, lz_, ls_]
      rfl
     refine one_ (i := 10) (N := some 32) #[T_, T_, T_, T_, T_, T_, T_, T_, T_, T_, T_, T_, T_, F_, F_, T_, F_] rfl rfl (one_of HT_.out (by kernel_rfl)) (by decide) (fun K hK => ?_)
     refine Kd.R_lit_step k68 _ 68 ?hg (N := 32) ?hd (xs := ([] : List (S68))) (inner := []) (ok := fun _ => True) (okp := fun _ => True) ?hr ?hp (fun _ hk => hk) trivial (Below.refl _ _) (Nat.le_refl _) (by simp) ?_; (case hd => rfl); (case hg => rfl); (case hr => first | (go_simp; done) | (go_simp; rfl)); (case hp => exact (Reps.none _ _))
     intro v216 w35 ho36 hb hg_ hnew_
     clear hg_ hnew_
     (first | rw [← Ny215.out] at ho36 | (simp only [Int.reduceToNat] at ho36; rw [← Ny215.out] at ho36))
     have n0_ := mk_ (Kd.R_below (Kd.ur_ HO214.out) hb)
     have n1_ := mk_ (Kd.R_lower ho36 (below_size (us_ HB.out)))
     have n2_ := mk_ (blk_below (u_ BK202.out) hb)
     have n3_ := mk_ (blk_below (u_ BK203.out) hb)
     have n4_ := mk_ (blk_below (u_ BK221.out) hb)
     have n5_ := mk_ (below_step (us_ HB.out) hb)
     clear HO214
     clear BK202
     clear BK203
     clear BK221
     clear HB
     have HO214 := n0_
     have HO217 := n1_
     have BK202 := n2_
     have BK203 := n3_
     have BK221 := n4_
     have HB := n5_
     clear n0_ n1_ n2_ n3_ n4_ n5_
     clear hb ho36
     refine hK.out _ _ ⟨(blk_cell BK202.out 0).trans rfl, (blk_cell BK202.out 1).trans rfl, (blk_cell BK202.out 2).trans rfl, (blk_cell BK202.out 3).trans rfl⟩ (fun hHeld => ?_)
     clear hK K
     refine norm_ (a' := ?_) ?_ ?_
     rotate_left
     ·show Act.put _ (some 32) _ = _
      simp only [Act.put, la_, lz_, ls_, i64_w, i32_w]
      rfl
     exact norm_ (by first | (simp only [putAll, Act.put, la_, lz_, ls_]; done) | (simp only [putAll, Act.put, la_, lz_, ls_]; rfl)) (hJ4_9_10_15 (v209, v213, v216, gb221) _ ⟨hHeld, (Kd.ur_ HO214.out), (Kd.ur_ HO217.out), (u_ BK202.out), (u_ BK203.out), (u_ BK221.out), GW221.out, GE221.out, NB202_221.out, NB221_202.out, NB203_221.out, NB221_203.out, (us_ HB.out)⟩)
    skip
    rintro ⟨v209, v213, v216⟩ w35 ⟨hS_, h0_, h1_, h2_, h3_, h4_⟩
    have n0_ : Aside0 (Kd.R (Kd.int .u8) 5 w35 w.heap.size (fun _ => True) v213 y212) := ⟨h0_⟩
    have n1_ : Aside0 (Kd.R k68 68 w35 w.heap.size (fun _ => True) v216 y215) := ⟨h1_⟩
    have n2_ : Aside0 (w35.heap[gb202]? = some (.cells #[.int .i64 a0_0, .int .i64 a0_1, .slice A0_2 l0_2.length c0_2, .slice A0_3 l0_3.length c0_3] 59 (0, 0))) := ⟨h2_⟩
    have n3_ : Aside0 (w35.heap[gb203]? = some (.cells #[.int .i64 0, .int .i64 0, .slice none 0 0, .slice none 0 0] 59 (0, 0))) := ⟨h3_⟩
    have n4_ : Aside0 (Below w.heap.size w w35) := ⟨h4_⟩
    clear BK202
    clear BK203
    clear HB
    clear h0_ h1_ h2_ h3_ h4_
    have HO214 := n0_
    have HO217 := n1_
    have BK202 := n2_
    have BK203 := n3_
    have HB := n4_
    clear n0_ n1_ n2_ n3_ n4_
    have hHeld : w35.cell? ⟨gb202, 0, none⟩ = some (.int .i64 a0_0) ∧ w35.cell? ⟨gb202, 1, none⟩ = some (.int .i64 a0_1) ∧ w35.cell? ⟨gb202, 2, none⟩ = some (.slice A0_2 l0_2.length c0_2) ∧ w35.cell? ⟨gb202, 3, none⟩ = some (.slice A0_3 l0_3.length c0_3) := hS_
    refine norm_ (a' := ?_) ?_ ?_
    rotate_left
    ·simp only [putAll, Act.put, la_, lz_, ls_]
     rfl
    refine two_ (i := 13) (j := 15) (Ni := some 35) (Nj := some 7) #[T_, T_, T_, T_, T_, T_, T_, T_, T_, T_, T_, T_, T_, T_, F_, F_, F_] #[T_, T_, T_, T_, T_, T_, T_, T_, T_, T_, T_, T_, T_, F_, F_, T_, F_] rfl rfl rfl rfl (two_of HT_.out (by kernel_rfl)) (by decide) (by decide) (fun K hK => ?_) (fun K hK => ?_)
    ·skip
     refine Kd.R_append_rows_step k68 (w0 := w) w.heap.size (by rfl) (.tmp 32) (.tmp 34) 57 68 (.agg #[(.int .i64 0), (.int .u8 0)]) 16 rfl Try.underlying57 info68 rfl (by decide) (by omega) v216 y215 l0_3 _ _ _ (fun _ => True) (fun _ => False) rfl rfl ?aO ?aR (fun _ _ h => h) (fun _ h => h.elim) ?aF ?aB ?aS ?aL ?_
     (case aR => repeat (first | exact (Kd.C_below HR0_3.out HB.out) | (with_reducible refine Kd.C_alloc ?_ _) | (with_reducible refine Kd.C_drewN ?_ _) | (with_reducible refine Kd.C_drew ?_)))
     (case aB => exact (us_ HB.out))
     (case aF => exact (fun _ _ => trivial))
     (case aO => exact (Kd.ur_ HO217.out))
     (case aS => exact (below_size (us_ HB.out)))
     (case aL => have := LMc18.out; omega)
     intro v219 w36 ho hb hg hat
     rw [← Ny218.out] at ho
     have n0_ := mk_ (blk_grown (g := gb202) (o := .cells #[.int .i64 a0_0, .int .i64 a0_1, .slice A0_2 l0_2.length c0_2, .slice A0_3 l0_3.length c0_3] 59 (0, 0)) (u_ BK202.out) hg (Kd.R_ne HO217.out BK202.out (by decide)))
     have n1_ := mk_ (blk_grown (g := gb203) (o := .cells #[.int .i64 0, .int .i64 0, .slice none 0 0, .slice none 0 0] 59 (0, 0)) (u_ BK203.out) hg (Kd.R_ne HO217.out BK203.out (by decide)))
     have n2_ := mk_ (Kd.R_over' (Kd.ur_ HO214.out) (Kd.R_typed (Kd.ur_ HO217.out)) (by decide) hg)
     have n3_ := mk_ (hb)
     have n4_ := mk_ (ho)
     clear BK202
     clear BK203
     clear HO214
     clear HB
     clear HO217
     have BK202 := n0_
     have BK203 := n1_
     have HO214 := n2_
     have HB := n3_
     have HO220 := n4_
     clear n0_ n1_ n2_ n3_ n4_
     clear ho hb hg hat
     obtain ⟨Ao37, co37, eo37⟩ := Kd.R_slice HO220.out
     (first | subst eo37 | (injection eo37 with f1_ f2_ f3_; have f4_ := f1_.symm; have f5_ := f3_.symm; clear f1_ f2_ f3_; subst f4_; subst f5_))
     obtain ⟨Ao38, co38, eo38⟩ := Kd.R_slice HO214.out
     (first | subst eo38 | (injection eo38 with f1_ f2_ f3_; have f4_ := f1_.symm; have f5_ := f3_.symm; clear f1_ f2_ f3_; subst f4_; subst f5_))
     refine hK.out _ _ ⟨(blk_cell BK202.out 0).trans rfl, (blk_cell BK202.out 1).trans rfl, (blk_cell BK202.out 2).trans rfl, (blk_cell BK202.out 3).trans rfl⟩ (fun hHeld => ?_)
     clear hK K
     refine norm_ (a' := ?_) ?_ ?_
     rotate_left
     ·show Act.put _ (some 35) _ = _
      simp only [Act.put, la_, lz_, ls_, i64_w, i32_w]
      rfl
     refine pure_ (i := 14) (N := some 36) (v := ?_) (a' := ?_) #[T_, T_, T_, T_, T_, T_, T_, T_, T_, T_, T_, T_, T_, T_, T_, F_, F_] rfl rfl (any_of HT_.out (by kernel_rfl)) (fun _ _ _ h => h) (Or.inl ⟨by rfl, ?_⟩) ?_ ?_
     rotate_left
     ·intro w'
      go_simp
      with_reducible rfl
     rotate_left
     ·simp only [Act.put, la_, lz_, ls_, i64_w, i32_w]
      rfl
     exact norm_ (by first | (simp only [putAll, Act.put, la_, lz_, ls_]; done) | (simp only [putAll, Act.put, la_, lz_, ls_]; rfl)) (hJ4_9_10_13 (v209, .slice Ao38 y212.length co38, v216, .slice Ao37 y218.length co37) _ ⟨hHeld, (Kd.ur_ HO214.out), (Kd.ur_ HO220.out), (u_ BK202.out), (u_ BK203.out), (us_ HB.out)⟩)
    skip
    refine box_step ?hg (N := 7) ?hd (cs := #[.int .i64 0, .int .i64 0, .slice none 0 0, .slice none 0 0]) (t := 59) ?hr ?_; (case hd => rfl); (case hg => rfl); (case hr => first | (go_simp; done) | (go_simp; rfl))
    intro gb221 hg w36 hbox hb
    have n0_ := mk_ (Kd.R_below (Kd.ur_ HO214.out) hb)
    have n1_ := mk_ (Kd.R_below (Kd.ur_ HO217.out) hb)
    have n2_ := mk_ (blk_below (u_ BK202.out) hb)
    have n3_ := mk_ (blk_below (u_ BK203.out) hb)
    have n4_ := mk_ (below_step (us_ HB.out) hb)
    have n5_ := mk_ (hbox)
    have n6_ := mk_ ((by rw [hg]; exact (below_size (us_ HB.out)) : w.heap.size ≤ gb221))
    have n7_ := mk_ ((by rw [hg]; exact (below_size (us_ HB.out)) : w.heap.size ≤ gb221))
    have n8_ := mk_ ((by rw [hg]; exact Nat.ne_of_lt (blk_lt (u_ BK202.out)) : gb202 ≠ gb221))
    have n9_ := mk_ ((by rw [hg]; exact Nat.ne_of_gt (blk_lt (u_ BK202.out)) : gb221 ≠ gb202))
    have n10_ := mk_ ((by rw [hg]; exact Nat.ne_of_lt (blk_lt (u_ BK203.out)) : gb203 ≠ gb221))
    have n11_ := mk_ ((by rw [hg]; exact Nat.ne_of_gt (blk_lt (u_ BK203.out)) : gb221 ≠ gb203))
    clear HO214
    clear HO217
    clear BK202
    clear BK203
    clear HB
    have HO214 := n0_
    have HO217 := n1_
    have BK202 := n2_
    have BK203 := n3_
    have HB := n4_
    have BK221 := n5_
    have GW221 := n6_
    have GE221 := ge_ n7_.out
    have NB202_221 := nq_ n8_.out
    have NB221_202 := nq_ n9_.out
    have NB203_221 := nq_ n10_.out
    have NB221_203 := nq_ n11_.out
    clear n0_ n1_ n2_ n3_ n4_ n5_ n6_ n7_ n8_ n9_ n10_ n11_
    clear hb hbox hg
    refine hK.out _ _ ⟨(blk_cell BK202.out 0).trans rfl, (blk_cell BK202.out 1).trans rfl, (blk_cell BK202.out 2).trans rfl, (blk_cell BK202.out 3).trans rfl⟩ (fun hHeld => ?_)
    clear hK K
    refine norm_ (a' := ?_) ?_ ?_
    rotate_left
    ·show Act.put _ (some 7) _ = _
     simp only [Act.put, la_, lz_, ls_, i64_w, i32_w]
     rfl
    exact norm_ (by first | (simp only [putAll, Act.put, la_, lz_, ls_]; done) | (simp only [putAll, Act.put, la_, lz_, ls_]; rfl)) (hJ4_9_10_15 (v209, v213, v216, gb221) _ ⟨hHeld, (Kd.ur_ HO214.out), (Kd.ur_ HO217.out), (u_ BK202.out), (u_ BK203.out), (u_ BK221.out), GW221.out, GE221.out, NB202_221.out, NB221_202.out, NB203_221.out, NB221_203.out, (us_ HB.out)⟩)
   skip
   rintro ⟨v209, v213, v216, gb221⟩ w36 ⟨hS_, h0_, h1_, h2_, h3_, h4_, h5_, h6_, h7_, h8_, h9_, h10_, h11_⟩
   have n0_ : Aside0 (Kd.R (Kd.int .u8) 5 w36 w.heap.size (fun _ => True) v213 y212) := ⟨h0_⟩
   have n1_ : Aside0 (Kd.R k68 68 w36 w.heap.size (fun _ => True) v216 y215) := ⟨h1_⟩
   have n2_ : Aside0 (w36.heap[gb202]? = some (.cells #[.int .i64 a0_0, .int .i64 a0_1, .slice A0_2 l0_2.length c0_2, .slice A0_3 l0_3.length c0_3] 59 (0, 0))) := ⟨h2_⟩
   have n3_ : Aside0 (w36.heap[gb203]? = some (.cells #[.int .i64 0, .int .i64 0, .slice none 0 0, .slice none 0 0] 59 (0, 0))) := ⟨h3_⟩
   have n4_ : Aside0 (w36.heap[gb221]? = some (.cells #[.int .i64 0, .int .i64 0, .slice none 0 0, .slice none 0 0] 59 (0, 0))) := ⟨h4_⟩
   have n5_ : Aside0 (w.heap.size ≤ gb221) := ⟨h5_⟩
   have n6_ : Aside0 (w.heap.size ≤ gb221) := ⟨h6_⟩
   have n7_ : Aside0 (gb202 ≠ gb221) := ⟨h7_⟩
   have n8_ : Aside0 (gb221 ≠ gb202) := ⟨h8_⟩
   have n9_ : Aside0 (gb203 ≠ gb221) := ⟨h9_⟩
   have n10_ : Aside0 (gb221 ≠ gb203) := ⟨h10_⟩
   have n11_ : Aside0 (Below w.heap.size w w36) := ⟨h11_⟩
   clear BK202
   clear BK203
   clear HB
   clear h0_ h1_ h2_ h3_ h4_ h5_ h6_ h7_ h8_ h9_ h10_ h11_
   have HO214 := n0_
   have HO217 := n1_
   have BK202 := n2_
   have BK203 := n3_
   have BK221 := n4_
   have GW221 := n5_
   have GE221 := ge_ n6_.out
   have NB202_221 := nq_ n7_.out
   have NB221_202 := nq_ n8_.out
   have NB203_221 := nq_ n9_.out
   have NB221_203 := nq_ n10_.out
   have HB := n11_
   clear n0_ n1_ n2_ n3_ n4_ n5_ n6_ n7_ n8_ n9_ n10_ n11_
   have hHeld : w36.cell? ⟨gb202, 0, none⟩ = some (.int .i64 a0_0) ∧ w36.cell? ⟨gb202, 1, none⟩ = some (.int .i64 a0_1) ∧ w36.cell? ⟨gb202, 2, none⟩ = some (.slice A0_2 l0_2.length c0_2) ∧ w36.cell? ⟨gb202, 3, none⟩ = some (.slice A0_3 l0_3.length c0_3) := hS_
   refine norm_ (a' := ?_) ?_ ?_
   rotate_left
   ·simp only [putAll, Act.put, la_, lz_, ls_]
    rfl
   refine one_ (i := 13) (N := some 35) #[T_, T_, T_, T_, T_, T_, T_, T_, T_, T_, T_, T_, T_, T_, F_, T_, F_] rfl rfl (one_of HT_.out (by kernel_rfl)) (by decide) (fun K hK => ?_)
   refine Kd.R_append_rows_step k68 (w0 := w) w.heap.size (by rfl) (.tmp 32) (.tmp 34) 57 68 (.agg #[(.int .i64 0), (.int .u8 0)]) 16 rfl Try.underlying57 info68 rfl (by decide) (by omega) v216 y215 l0_3 _ _ _ (fun _ => True) (fun _ => False) rfl rfl ?aO ?aR (fun _ _ h => h) (fun _ h => h.elim) ?aF ?aB ?aS ?aL ?_
   (case aR => repeat (first | exact (Kd.C_below HR0_3.out HB.out) | (with_reducible refine Kd.C_alloc ?_ _) | (with_reducible refine Kd.C_drewN ?_ _) | (with_reducible refine Kd.C_drew ?_)))
   (case aB => exact (us_ HB.out))
   (case aF => exact (fun _ _ => trivial))
   (case aO => exact (Kd.ur_ HO217.out))
   (case aS => exact (below_size (us_ HB.out)))
   (case aL => have := LMc18.out; omega)
   intro v219 w37 ho hb hg hat
   rw [← Ny218.out] at ho
   have n0_ := mk_ (blk_grown (g := gb202) (o := .cells #[.int .i64 a0_0, .int .i64 a0_1, .slice A0_2 l0_2.length c0_2, .slice A0_3 l0_3.length c0_3] 59 (0, 0)) (u_ BK202.out) hg (Kd.R_ne HO217.out BK202.out (by decide)))
   have n1_ := mk_ (blk_grown (g := gb203) (o := .cells #[.int .i64 0, .int .i64 0, .slice none 0 0, .slice none 0 0] 59 (0, 0)) (u_ BK203.out) hg (Kd.R_ne HO217.out BK203.out (by decide)))
   have n2_ := mk_ (Kd.R_over' (Kd.ur_ HO214.out) (Kd.R_typed (Kd.ur_ HO217.out)) (by decide) hg)
   have n3_ := mk_ (blk_grown (g := gb221) (o := .cells #[.int .i64 0, .int .i64 0, .slice none 0 0, .slice none 0 0] 59 (0, 0)) (u_ BK221.out) hg (Kd.R_ne HO217.out BK221.out (by decide)))
   have n4_ := mk_ (hb)
   have n5_ := mk_ (ho)
   clear BK202
   clear BK203
   clear HO214
   clear BK221
   clear HB
   clear HO217
   have BK202 := n0_
   have BK203 := n1_
   have HO214 := n2_
   have BK221 := n3_
   have HB := n4_
   have HO220 := n5_
   clear n0_ n1_ n2_ n3_ n4_ n5_
   clear ho hb hg hat
   obtain ⟨Ao38, co38, eo38⟩ := Kd.R_slice HO220.out
   (first | subst eo38 | (injection eo38 with f1_ f2_ f3_; have f4_ := f1_.symm; have f5_ := f3_.symm; clear f1_ f2_ f3_; subst f4_; subst f5_))
   obtain ⟨Ao39, co39, eo39⟩ := Kd.R_slice HO214.out
   (first | subst eo39 | (injection eo39 with f1_ f2_ f3_; have f4_ := f1_.symm; have f5_ := f3_.symm; clear f1_ f2_ f3_; subst f4_; subst f5_))
   refine hK.out _ _ ⟨(blk_cell BK202.out 0).trans rfl, (blk_cell BK202.out 1).trans rfl, (blk_cell BK202.out 2).trans rfl, (blk_cell BK202.out 3).trans rfl⟩ (fun hHeld => ?_)
   clear hK K
   refine norm_ (a' := ?_) ?_ ?_
   rotate_left
   ·show Act.put _ (some 35) _ = _
    simp only [Act.put, la_, lz_, ls_, i64_w, i32_w]
    rfl
   refine pure_ (i := 14) (N := some 36) (v := ?_) (a' := ?_) #[T_, T_, T_, T_, T_, T_, T_, T_, T_, T_, T_, T_, T_, T_, T_, T_, F_] rfl rfl (any_of HT_.out (by kernel_rfl)) (fun _ _ _ h => h) (Or.inl ⟨by rfl, ?_⟩) ?_ ?_
   rotate_left
   ·intro w'
    go_simp
    with_reducible rfl
   rotate_left
   ·simp only [Act.put, la_, lz_, ls_, i64_w, i32_w]
    rfl
   exact norm_ (by first | (simp only [putAll, Act.put, la_, lz_, ls_]; done) | (simp only [putAll, Act.put, la_, lz_, ls_]; rfl)) (hJ4_9_10_13_15 (v209, .slice Ao39 y212.length co39, v216, .slice Ao38 y218.length co38, gb221) _ ⟨hHeld, (Kd.ur_ HO214.out), (Kd.ur_ HO220.out), (u_ BK202.out), (u_ BK203.out), (u_ BK221.out), GW221.out, GE221.out, NB202_221.out, NB221_202.out, NB203_221.out, NB221_203.out, (us_ HB.out)⟩)
  skip
  rintro ⟨v209, v213, v216, v219⟩ w38 ⟨hS_, h0_, h1_, h2_, h3_, h4_⟩
  have n0_ : Aside0 (Kd.R (Kd.int .u8) 5 w38 w.heap.size (fun _ => True) v213 y212) := ⟨h0_⟩
  have n1_ : Aside0 (Kd.R k68 68 w38 w.heap.size (fun _ => True) v219 y218) := ⟨h1_⟩
  have n2_ : Aside0 (w38.heap[gb202]? = some (.cells #[.int .i64 a0_0, .int .i64 a0_1, .slice A0_2 l0_2.length c0_2, .slice A0_3 l0_3.length c0_3] 59 (0, 0))) := ⟨h2_⟩
  have n3_ : Aside0 (w38.heap[gb203]? = some (.cells #[.int .i64 0, .int .i64 0, .slice none 0 0, .slice none 0 0] 59 (0, 0))) := ⟨h3_⟩
  have n4_ : Aside0 (Below w.heap.size w w38) := ⟨h4_⟩
  clear BK202
  clear BK203
  clear HB
  clear h0_ h1_ h2_ h3_ h4_
  have HO214 := n0_
  have HO220 := n1_
  have BK202 := n2_
  have BK203 := n3_
  have HB := n4_
  clear n0_ n1_ n2_ n3_ n4_
  have hHeld : w38.cell? ⟨gb202, 0, none⟩ = some (.int .i64 a0_0) ∧ w38.cell? ⟨gb202, 1, none⟩ = some (.int .i64 a0_1) ∧ w38.cell? ⟨gb202, 2, none⟩ = some (.slice A0_2 l0_2.length c0_2) ∧ w38.cell? ⟨gb202, 3, none⟩ = some (.slice A0_3 l0_3.length c0_3) := hS_
  obtain ⟨Ao39, co39, eo39⟩ := Kd.R_slice HO220.out
  (first | subst eo39 | (injection eo39 with f1_ f2_ f3_; have f4_ := f1_.symm; have f5_ := f3_.symm; clear f1_ f2_ f3_; subst f4_; subst f5_))
  obtain ⟨Ao40, co40, eo40⟩ := Kd.R_slice HO214.out
  (first | subst eo40 | (injection eo40 with f1_ f2_ f3_; have f4_ := f1_.symm; have f5_ := f3_.symm; clear f1_ f2_ f3_; subst f4_; subst f5_))
  refine norm_ (a' := ?_) ?_ ?_
  rotate_left
  ·simp only [putAll, Act.put, la_, lz_, ls_]
   rfl
  refine one_ (i := 15) (N := some 7) #[T_, T_, T_, T_, T_, T_, T_, T_, T_, T_, T_, T_, T_, T_, T_, T_, F_] rfl rfl (one_of HT_.out (by kernel_rfl)) (by decide) (fun K hK => ?_)
  refine box_step ?hg (N := 7) ?hd (cs := #[.int .i64 0, .int .i64 0, .slice none 0 0, .slice none 0 0]) (t := 59) ?hr ?_; (case hd => rfl); (case hg => rfl); (case hr => first | (go_simp; done) | (go_simp; rfl))
  intro gb221 hg w41 hbox hb
  have n0_ := mk_ (Kd.R_below (Kd.ur_ HO214.out) hb)
  have n1_ := mk_ (Kd.R_below (Kd.ur_ HO220.out) hb)
  have n2_ := mk_ (blk_below (u_ BK202.out) hb)
  have n3_ := mk_ (blk_below (u_ BK203.out) hb)
  have n4_ := mk_ (below_step (us_ HB.out) hb)
  have n5_ := mk_ (hbox)
  have n6_ := mk_ ((by rw [hg]; exact (below_size (us_ HB.out)) : w.heap.size ≤ gb221))
  have n7_ := mk_ ((by rw [hg]; exact (below_size (us_ HB.out)) : w.heap.size ≤ gb221))
  have n8_ := mk_ ((by rw [hg]; exact Nat.ne_of_lt (blk_lt (u_ BK202.out)) : gb202 ≠ gb221))
  have n9_ := mk_ ((by rw [hg]; exact Nat.ne_of_gt (blk_lt (u_ BK202.out)) : gb221 ≠ gb202))
  have n10_ := mk_ ((by rw [hg]; exact Nat.ne_of_lt (blk_lt (u_ BK203.out)) : gb203 ≠ gb221))
  have n11_ := mk_ ((by rw [hg]; exact Nat.ne_of_gt (blk_lt (u_ BK203.out)) : gb221 ≠ gb203))
  clear HO214
  clear HO220
  clear BK202
  clear BK203
  clear HB
  have HO214 := n0_
  have HO220 := n1_
  have BK202 := n2_
  have BK203 := n3_
  have HB := n4_
  have BK221 := n5_
  have GW221 := n6_
  have GE221 := ge_ n7_.out
  have NB202_221 := nq_ n8_.out
  have NB221_202 := nq_ n9_.out
  have NB203_221 := nq_ n10_.out
  have NB221_203 := nq_ n11_.out
  clear n0_ n1_ n2_ n3_ n4_ n5_ n6_ n7_ n8_ n9_ n10_ n11_
  clear hb hbox hg
  refine hK.out _ _ ⟨(blk_cell BK202.out 0).trans rfl, (blk_cell BK202.out 1).trans rfl, (blk_cell BK202.out 2).trans rfl, (blk_cell BK202.out 3).trans rfl⟩ (fun hHeld => ?_)
  clear hK K
  refine norm_ (a' := ?_) ?_ ?_
  rotate_left
  ·show Act.put _ (some 7) _ = _
   simp only [Act.put, la_, lz_, ls_, i64_w, i32_w]
   rfl
  exact norm_ (by first | (simp only [putAll, Act.put, la_, lz_, ls_]; done) | (simp only [putAll, Act.put, la_, lz_, ls_]; rfl)) (hJ4_9_10_13_15 (v209, .slice Ao40 y212.length co40, v216, .slice Ao39 y218.length co39, gb221) _ ⟨hHeld, (Kd.ur_ HO214.out), (Kd.ur_ HO220.out), (u_ BK202.out), (u_ BK203.out), (u_ BK221.out), GW221.out, GE221.out, NB202_221.out, NB221_202.out, NB203_221.out, NB221_203.out, (us_ HB.out)⟩)
 rintro ⟨v209, v213, v216, v219, gb221⟩ w39 ⟨hS_, h0_, h1_, h2_, h3_, h4_, h5_, h6_, h7_, h8_, h9_, h10_, h11_⟩
 have n0_ : Aside0 (Kd.R (Kd.int .u8) 5 w39 w.heap.size (fun _ => True) v213 y212) := ⟨h0_⟩
 have n1_ : Aside0 (Kd.R k68 68 w39 w.heap.size (fun _ => True) v219 y218) := ⟨h1_⟩
 have n2_ : Aside0 (w39.heap[gb202]? = some (.cells #[.int .i64 a0_0, .int .i64 a0_1, .slice A0_2 l0_2.length c0_2, .slice A0_3 l0_3.length c0_3] 59 (0, 0))) := ⟨h2_⟩
 have n3_ : Aside0 (w39.heap[gb203]? = some (.cells #[.int .i64 0, .int .i64 0, .slice none 0 0, .slice none 0 0] 59 (0, 0))) := ⟨h3_⟩
 have n4_ : Aside0 (w39.heap[gb221]? = some (.cells #[.int .i64 0, .int .i64 0, .slice none 0 0, .slice none 0 0] 59 (0, 0))) := ⟨h4_⟩
 have n5_ : Aside0 (w.heap.size ≤ gb221) := ⟨h5_⟩
 have n6_ : Aside0 (w.heap.size ≤ gb221) := ⟨h6_⟩
 have n7_ : Aside0 (gb202 ≠ gb221) := ⟨h7_⟩
 have n8_ : Aside0 (gb221 ≠ gb202) := ⟨h8_⟩
 have n9_ : Aside0 (gb203 ≠ gb221) := ⟨h9_⟩
 have n10_ : Aside0 (gb221 ≠ gb203) := ⟨h10_⟩
 have n11_ : Aside0 (Below w.heap.size w w39) := ⟨h11_⟩
 clear BK202
 clear BK203
 clear HB
 clear h0_ h1_ h2_ h3_ h4_ h5_ h6_ h7_ h8_ h9_ h10_ h11_
 have HO214 := n0_
 have HO220 := n1_
 have BK202 := n2_
 have BK203 := n3_
 have BK221 := n4_
 have GW221 := n5_
 have GE221 := ge_ n6_.out
 have NB202_221 := nq_ n7_.out
 have NB221_202 := nq_ n8_.out
 have NB203_221 := nq_ n9_.out
 have NB221_203 := nq_ n10_.out
 have HB := n11_
 clear n0_ n1_ n2_ n3_ n4_ n5_ n6_ n7_ n8_ n9_ n10_ n11_
 have hHeld : w39.cell? ⟨gb202, 0, none⟩ = some (.int .i64 a0_0) ∧ w39.cell? ⟨gb202, 1, none⟩ = some (.int .i64 a0_1) ∧ w39.cell? ⟨gb202, 2, none⟩ = some (.slice A0_2 l0_2.length c0_2) ∧ w39.cell? ⟨gb202, 3, none⟩ = some (.slice A0_3 l0_3.length c0_3) := hS_
 obtain ⟨Ao40, co40, eo40⟩ := Kd.R_slice HO220.out
 (first | subst eo40 | (injection eo40 with f1_ f2_ f3_; have f4_ := f1_.symm; have f5_ := f3_.symm; clear f1_ f2_ f3_; subst f4_; subst f5_))
 obtain ⟨Ao41, co41, eo41⟩ := Kd.R_slice HO214.out
 (first | subst eo41 | (injection eo41 with f1_ f2_ f3_; have f4_ := f1_.symm; have f5_ := f3_.symm; clear f1_ f2_ f3_; subst f4_; subst f5_))
 refine norm_ (a' := ?_) ?_ ?_
 rotate_left
 ·simp only [putAll, Act.put, la_, lz_, ls_]
  rfl
 refine one_ (i := 16) (N := none) #[T_, T_, T_, T_, T_, T_, T_, T_, T_, T_, T_, T_, T_, T_, T_, T_, T_] rfl rfl (one_of HT_.out (by kernel_rfl)) (by decide) (fun K hK => ?_)
 have hs42 : w39.cell? ⟨gb221, 0, none⟩ = some (.int .i64 0) := (blk_cell BK221.out 0).trans rfl
 have hfs42 := blk_frozen BK221.out 0
 have hns42_0 := NB202_221.out
 have hns42_1 := NB203_221.out
 have hms42_0 := NB221_202.out
 have hms42_1 := NB221_203.out
 have hs43 : w39.cell? ⟨gb221, 1, none⟩ = some (.int .i64 0) := (blk_cell BK221.out 1).trans rfl
 have hfs43 := blk_frozen BK221.out 1
 have hns43_0 := NB202_221.out
 have hns43_1 := NB203_221.out
 have hms43_0 := NB221_202.out
 have hms43_1 := NB221_203.out
 have hs44 : w39.cell? ⟨gb221, 2, none⟩ = some (.slice none 0 0) := (blk_cell BK221.out 2).trans rfl
 have hfs44 := blk_frozen BK221.out 2
 have hns44_0 := NB202_221.out
 have hns44_1 := NB203_221.out
 have hms44_0 := NB221_202.out
 have hms44_1 := NB221_203.out
 have hs45 : w39.cell? ⟨gb221, 3, none⟩ = some (.slice none 0 0) := (blk_cell BK221.out 3).trans rfl
 have hfs45 := blk_frozen BK221.out 3
 have hns45_0 := NB202_221.out
 have hns45_1 := NB203_221.out
 have hms45_0 := NB221_202.out
 have hms45_1 := NB221_203.out
 refine skip_ (w1 := ?_) (by rfl) rfl ?_ ?_
 rotate_left
 ·go_simp
  rfl
 refine hK.out _ _ ⟨((cell_far (p := ⟨gb221, _, none⟩) NB202_221.out _).trans (((cell_far (p := ⟨gb221, _, none⟩) NB202_221.out _).trans (((cell_far (p := ⟨gb221, _, none⟩) NB202_221.out _).trans (((cell_far (p := ⟨gb221, _, none⟩) NB202_221.out _).trans (hHeld.1)))))))), ((cell_far (p := ⟨gb221, _, none⟩) NB202_221.out _).trans (((cell_far (p := ⟨gb221, _, none⟩) NB202_221.out _).trans (((cell_far (p := ⟨gb221, _, none⟩) NB202_221.out _).trans (((cell_far (p := ⟨gb221, _, none⟩) NB202_221.out _).trans (hHeld.2.1)))))))), ((cell_far (p := ⟨gb221, _, none⟩) NB202_221.out _).trans (((cell_far (p := ⟨gb221, _, none⟩) NB202_221.out _).trans (((cell_far (p := ⟨gb221, _, none⟩) NB202_221.out _).trans (((cell_far (p := ⟨gb221, _, none⟩) NB202_221.out _).trans (hHeld.2.2.1)))))))), ((cell_far (p := ⟨gb221, _, none⟩) NB202_221.out _).trans (((cell_far (p := ⟨gb221, _, none⟩) NB202_221.out _).trans (((cell_far (p := ⟨gb221, _, none⟩) NB202_221.out _).trans (((cell_far (p := ⟨gb221, _, none⟩) NB202_221.out _).trans (hHeld.2.2.2))))))))⟩ (fun hHeld => ?_)
 clear hK K
 refine done_ (done_of HT_.out (by kernel_rfl)) ?_
 try go_wp2
 have n0_ : Aside0 (Kd.R (Kd.int .u8) 5 ((((w39.setCell ⟨gb221, 0, none⟩ (.int .i64 a0_0)).setCell ⟨gb221, 1, none⟩ (.int .i64 a0_1)).setCell ⟨gb221, 2, none⟩ (.slice Ao41 y212.length co41)).setCell ⟨gb221, 3, none⟩ (.slice Ao40 y218.length co40)) w.heap.size (fun _ => True) (.slice Ao41 y212.length co41) y212) := ⟨by (with_reducible repeat (first | apply Kd.R_alloc | apply Kd.R_drewN | apply Kd.R_drew)); exact Kd.R_mono (Kd.R_far (p := ⟨gb221, 3, none⟩) (Kd.R_far (p := ⟨gb221, 2, none⟩) (Kd.R_far (p := ⟨gb221, 1, none⟩) (Kd.R_far (p := ⟨gb221, 0, none⟩) (Kd.R_types HO214.out BK221.out (by decide)) (fun _ hk => hk.2) (.int .i64 a0_0)) (fun _ hk => hk.2) (.int .i64 a0_1)) (fun _ hk => hk.2) (.slice Ao41 y212.length co41)) (fun _ hk => hk.2) (.slice Ao40 y218.length co40)) (fun _ hk => trivial)⟩
 have n1_ : Aside0 (Kd.R k68 68 ((((w39.setCell ⟨gb221, 0, none⟩ (.int .i64 a0_0)).setCell ⟨gb221, 1, none⟩ (.int .i64 a0_1)).setCell ⟨gb221, 2, none⟩ (.slice Ao41 y212.length co41)).setCell ⟨gb221, 3, none⟩ (.slice Ao40 y218.length co40)) w.heap.size (fun _ => True) (.slice Ao40 y218.length co40) y218) := ⟨by (with_reducible repeat (first | apply Kd.R_alloc | apply Kd.R_drewN | apply Kd.R_drew)); exact Kd.R_mono (Kd.R_far (p := ⟨gb221, 3, none⟩) (Kd.R_far (p := ⟨gb221, 2, none⟩) (Kd.R_far (p := ⟨gb221, 1, none⟩) (Kd.R_far (p := ⟨gb221, 0, none⟩) (Kd.R_types HO220.out BK221.out (by decide)) (fun _ hk => hk.2) (.int .i64 a0_0)) (fun _ hk => hk.2) (.int .i64 a0_1)) (fun _ hk => hk.2) (.slice Ao41 y212.length co41)) (fun _ hk => hk.2) (.slice Ao40 y218.length co40)) (fun _ hk => trivial)⟩
 have n2_ : Aside0 (((((w39.setCell ⟨gb221, 0, none⟩ (.int .i64 a0_0)).setCell ⟨gb221, 1, none⟩ (.int .i64 a0_1)).setCell ⟨gb221, 2, none⟩ (.slice Ao41 y212.length co41)).setCell ⟨gb221, 3, none⟩ (.slice Ao40 y218.length co40)).heap[gb202]? = some (.cells #[.int .i64 a0_0, .int .i64 a0_1, .slice A0_2 l0_2.length c0_2, .slice A0_3 l0_3.length c0_3] 59 (0, 0))) := ⟨uf_ BK202.out⟩
 have n3_ : Aside0 (((((w39.setCell ⟨gb221, 0, none⟩ (.int .i64 a0_0)).setCell ⟨gb221, 1, none⟩ (.int .i64 a0_1)).setCell ⟨gb221, 2, none⟩ (.slice Ao41 y212.length co41)).setCell ⟨gb221, 3, none⟩ (.slice Ao40 y218.length co40)).heap[gb203]? = some (.cells #[.int .i64 0, .int .i64 0, .slice none 0 0, .slice none 0 0] 59 (0, 0))) := ⟨uf_ BK203.out⟩
 have n4_ : Aside0 (((((w39.setCell ⟨gb221, 0, none⟩ (.int .i64 a0_0)).setCell ⟨gb221, 1, none⟩ (.int .i64 a0_1)).setCell ⟨gb221, 2, none⟩ (.slice Ao41 y212.length co41)).setCell ⟨gb221, 3, none⟩ (.slice Ao40 y218.length co40)).heap[gb221]? = some (.cells #[.int .i64 a0_0, .int .i64 a0_1, .slice Ao41 y212.length co41, .slice Ao40 y218.length co40] 59 (0, 0))) := ⟨by (with_reducible repeat (first | refine bn_ ?_ _ | refine bw_ ?_ | refine ba_ ?_ _)); refine blk_put (cs := #[.int .i64 a0_0, .int .i64 a0_1, .slice Ao41 y212.length co41, .slice none 0 0]) ?_ 3 _ rfl; (with_reducible repeat (first | refine bn_ ?_ _ | refine bw_ ?_ | refine ba_ ?_ _)); refine blk_put (cs := #[.int .i64 a0_0, .int .i64 a0_1, .slice none 0 0, .slice none 0 0]) ?_ 2 _ rfl; (with_reducible repeat (first | refine bn_ ?_ _ | refine bw_ ?_ | refine ba_ ?_ _)); refine blk_put (cs := #[.int .i64 a0_0, .int .i64 0, .slice none 0 0, .slice none 0 0]) ?_ 1 _ rfl; (with_reducible repeat (first | refine bn_ ?_ _ | refine bw_ ?_ | refine ba_ ?_ _)); refine blk_put (cs := #[.int .i64 0, .int .i64 0, .slice none 0 0, .slice none 0 0]) ?_ 0 _ rfl; (with_reducible repeat (first | refine bn_ ?_ _ | refine bw_ ?_ | refine ba_ ?_ _)); exact BK221.out⟩
 have n5_ : Aside0 (Below w.heap.size w ((((w39.setCell ⟨gb221, 0, none⟩ (.int .i64 a0_0)).setCell ⟨gb221, 1, none⟩ (.int .i64 a0_1)).setCell ⟨gb221, 2, none⟩ (.slice Ao41 y212.length co41)).setCell ⟨gb221, 3, none⟩ (.slice Ao40 y218.length co40))) := ⟨us_ HB.out⟩
 (try clear HO214)
 (try clear HO220)
 (try clear BK202)
 (try clear BK203)
 (try clear BK221)
 (try clear HB)
 generalize ((((w39.setCell ⟨gb221, 0, none⟩ (.int .i64 a0_0)).setCell ⟨gb221, 1, none⟩ (.int .i64 a0_1)).setCell ⟨gb221, 2, none⟩ (.slice Ao41 y212.length co41)).setCell ⟨gb221, 3, none⟩ (.slice Ao40 y218.length co40)) = w46 at n0_ n1_ n2_ n3_ n4_ n5_ ⊢
 have HO214 := n0_
 have HO220 := n1_
 have BK202 := n2_
 have BK203 := n3_
 have BK221 := n4_
 have HB := n5_
 clear n0_ n1_ n2_ n3_ n4_ n5_
 have n0_ := mk_ (Kd.R_drew HO214.out)
 have n1_ := mk_ (Kd.R_drew HO220.out)
 have n2_ := mk_ (blk_drew BK202.out)
 have n3_ := mk_ (blk_drew BK203.out)
 have n4_ := mk_ (blk_drew BK221.out)
 have n5_ := mk_ (below_drew1 HB.out)
 clear HO214
 clear HO220
 clear BK202
 clear BK203
 clear BK221
 clear HB
 have HO214 := n0_
 have HO220 := n1_
 have BK202 := n2_
 have BK203 := n3_
 have BK221 := n4_
 have HB := n5_
 clear n0_ n1_ n2_ n3_ n4_ n5_
 obtain ⟨i048, hi048, _, hsz48, _⟩ := info_parts info5
 obtain ⟨hcut48, hA48, hC48⟩ := print_take_of (P := Try.prog) (Value.int .u8) 0 22 5 .i64 Try.underlying22 hi048 hsz48 A0_2 c0_2 l0_2 (ji14) (of_decide_eq_true (by first | (with_reducible assumption) | assumption)) (of_decide_eq_true (by first | (with_reducible assumption) | assumption)) HC0_2.out
 have HR225 := mk_ (Kd.C_of_reads (h1 := fun _ => rfl) (hA48 _ (Kd.reads_of_C HR0_2.out)))
 have HC225 := mk_ hC48
 clear hA48 hC48 hi048 hsz48
 refine start_ (n := 9) (S := fun w' => w'.cell? ⟨gb221, 0, none⟩ = some (.int .i64 a0_0) ∧ w'.cell? ⟨gb221, 1, none⟩ = some (.int .i64 a0_1) ∧ w'.cell? ⟨gb221, 2, none⟩ = some (.slice Ao41 y212.length co41) ∧ w'.cell? ⟨gb221, 3, none⟩ = some (.slice Ao40 y218.length co40) ∧ w'.cell? ⟨gb202, 0, none⟩ = some (.int .i64 a0_0) ∧ w'.cell? ⟨gb202, 1, none⟩ = some (.int .i64 a0_1) ∧ w'.cell? ⟨gb202, 2, none⟩ = some (.slice A0_2 l0_2.length c0_2) ∧ w'.cell? ⟨gb202, 3, none⟩ = some (.slice A0_3 l0_3.length c0_3)) (ds := []) #[F_, F_, F_, F_, F_, F_, F_, F_, F_] (by kernel_rfl) rfl rfl ⟨(blk_cell BK221.out 0).trans rfl, (blk_cell BK221.out 1).trans rfl, (blk_cell BK221.out 2).trans rfl, (blk_cell BK221.out 3).trans rfl, (blk_cell BK202.out 0).trans rfl, (blk_cell BK202.out 1).trans rfl, (blk_cell BK202.out 2).trans rfl, (blk_cell BK202.out 3).trans rfl⟩ (fun hHeld => ?_); refine with_tabW spec_EarRead.tab5 spec_EarRead.bits5 (fun HT_ HW_ => ?_)
 generalize w46.drew = w47 at HO214 HO220 BK202 BK203 BK221 HB HR225 hHeld ⊢
 refine pure_ (i := 2) (N := some 39) (v := ?_) (a' := ?_) #[F_, F_, T_, F_, F_, F_, F_, F_, F_] rfl rfl (any_of HT_.out (by kernel_rfl)) (fun _ _ _ h => h) (Or.inl ⟨by rfl, ?_⟩) ?_ ?_
 rotate_left
 ·intro w'
  go_simp
  with_reducible rfl
 rotate_left
 ·simp only [Act.put, la_, lz_, ls_, i64_w, i32_w]
  rfl
 refine pure_ (i := 4) (N := some 41) (v := ?_) (a' := ?_) #[F_, F_, T_, F_, T_, F_, F_, F_, F_] rfl rfl (any_of HT_.out (by kernel_rfl)) (fun _ _ _ h => h) (Or.inl ⟨by rfl, ?_⟩) ?_ ?_
 rotate_left
 ·intro w'
  go_simp
  with_reducible rfl
 rotate_left
 ·simp only [Act.put, la_, lz_, ls_, i64_w, i32_w]
  rfl
 refine take_ (i := 0) (N := some 37) (v := ?_) (a' := ?_) #[T_, F_, T_, F_, T_, F_, F_, F_, F_] rfl rfl (take_ofW HT_.out HW_.out (by kernel_rfl)) (fun _ _ _ h => h) (Or.inl ⟨by rfl, ?_⟩) hHeld ?_ ?_
 rotate_left
 ·rintro w' ⟨s0, s1, s2, s3, s4, s5, s6, s7⟩
  go_simp
  with_reducible rfl
 rotate_left
 ·simp only [Act.put, la_, lz_, ls_, i64_w, i32_w]
  rfl
 refine take_ (i := 3) (N := some 40) (v := ?_) (a' := ?_) #[T_, F_, T_, T_, T_, F_, F_, F_, F_] rfl rfl (take_ofW HT_.out HW_.out (by kernel_rfl)) (fun _ _ _ h => h) (Or.inl ⟨by rfl, ?_⟩) hHeld ?_ ?_
 rotate_left
 ·rintro w' ⟨s0, s1, s2, s3, s4, s5, s6, s7⟩
  go_simp
  with_reducible rfl
 rotate_left
 ·simp only [Act.put, la_, lz_, ls_, i64_w, i32_w]
  rfl
 refine pure_ (i := 5) (N := some 42) (v := ?_) (a' := ?_) #[T_, F_, T_, T_, T_, T_, F_, F_, F_] rfl rfl (any_of HT_.out (by kernel_rfl)) (fun _ _ _ h => h) (Or.inl ⟨by rfl, ?_⟩) ?_ ?_
 rotate_left
 ·intro w'
  go_simp
  with_reducible rfl
 rotate_left
 ·simp only [Act.put, la_, lz_, ls_, i64_w, i32_w]
  rfl
 refine one_ (i := 1) (N := some 38) #[T_, T_, T_, T_, T_, T_, F_, F_, F_] rfl rfl (one_of HT_.out (by kernel_rfl)) (by decide) (fun K hK => ?_)
 refine Kd.R_lit_step (Kd.int .u8) _ 5 ?hg (N := 38) ?hd (xs := ([] : List Int)) (inner := []) (ok := fun _ => True) (okp := fun _ => True) ?hr ?hp (fun _ hk => hk) trivial (Below.refl _ _) (Nat.le_refl _) (by simp) ?_; (case hd => rfl); (case hg => rfl); (case hr => first | (go_simp; done) | (go_simp; rfl)); (case hp => exact (Reps.none _ _))
 intro v223 w49 ho50 hb hg_ hnew_
 clear hg_ hnew_
 (first | rw [← Ny222.out] at ho50 | (simp only [Int.reduceToNat] at ho50; rw [← Ny222.out] at ho50))
 have n0_ := mk_ (Kd.R_elder' (Kd.ur_ HO214.out) (Kd.R_base ho50) hb)
 have n1_ := mk_ (Kd.R_below (Kd.ur_ HO220.out) hb)
 have n2_ := mk_ (Kd.R_lower (Kd.R_new' ho50 (Kd.R_lt (Kd.ur_ HO214.out))) (below_size (us_ HB.out)))
 have n3_ := mk_ (blk_below (u_ BK202.out) hb)
 have n4_ := mk_ (blk_below (u_ BK203.out) hb)
 have n5_ := mk_ (blk_below (u_ BK221.out) hb)
 have n6_ := mk_ (below_step (us_ HB.out) hb)
 clear HO214
 clear HO220
 clear BK202
 clear BK203
 clear BK221
 clear HB
 have HO214 := n0_
 have HO220 := n1_
 have HO224 := n2_
 have BK202 := n3_
 have BK203 := n4_
 have BK221 := n5_
 have HB := n6_
 clear n0_ n1_ n2_ n3_ n4_ n5_ n6_
 clear hb ho50
 refine hK.out _ _ ⟨(blk_cell BK221.out 0).trans rfl, (blk_cell BK221.out 1).trans rfl, (blk_cell BK221.out 2).trans rfl, (blk_cell BK221.out 3).trans rfl, (blk_cell BK202.out 0).trans rfl, (blk_cell BK202.out 1).trans rfl, (blk_cell BK202.out 2).trans rfl, (blk_cell BK202.out 3).trans rfl⟩ (fun hHeld => ?_)
 clear hK K
 refine norm_ (a' := ?_) ?_ ?_
 rotate_left
 ·show Act.put _ (some 38) _ = _
  simp only [Act.put, la_, lz_, ls_, i64_w, i32_w]
  rfl
 refine one_ (i := 6) (N := some 43) #[T_, T_, T_, T_, T_, T_, T_, F_, F_] rfl rfl (one_of HT_.out (by kernel_rfl)) (by decide) (fun K hK => ?_)
 refine Kd.R_append_rows_step (Kd.int .u8) (w0 := w) w.heap.size (by rfl) (.tmp 38) (.tmp 42) 22 5 (.int .u8 0) 1 rfl Try.underlying22 info5 rfl (by decide) (by omega) v223 y222 (l0_2.take ((ji14) : Int).toNat) _ _ _ (fun k_ => some k_ ≠ (.slice Ao41 y212.length co41 : Value).ownBlock) (fun _ => False) rfl rfl ?aO ?aR (fun _ _ h => h) (fun _ h => h.elim) ?aF ?aB ?aS ?aL ?_
 (case aR => first | (have e_ := (Kd.C_below HR225.out HB.out); rw [show (l0_2.take ((ji14) : Int).toNat).length = (ji14).toNat from (by rw [List.length_take]; have h_ : ((ji14) : Int) ≤ (l0_2.length : Int) := of_decide_eq_true (by first | (with_reducible assumption) | assumption); omega)] at e_; exact e_) | (rw [← show (l0_2.take ((ji14) : Int).toNat).length = (ji14).toNat from (by rw [List.length_take]; have h_ : ((ji14) : Int) ≤ (l0_2.length : Int) := of_decide_eq_true (by first | (with_reducible assumption) | assumption); omega)]; repeat (first | exact (Kd.C_below HR225.out HB.out) | (with_reducible refine Kd.C_alloc ?_ _) | (with_reducible refine Kd.C_drewN ?_ _) | (with_reducible refine Kd.C_drew ?_))) | (repeat (first | exact (Kd.C_below HR225.out HB.out) | (with_reducible refine Kd.C_alloc ?_ _) | (with_reducible refine Kd.C_drewN ?_ _) | (with_reducible refine Kd.C_drew ?_))))
 (case aB => exact (us_ HB.out))
 (case aF => exact (fun k_ hk => Kd.fresh' (Kd.R_lt (Kd.ur_ HO214.out)) k_ hk))
 (case aO => exact (by (with_reducible repeat (first | apply Kd.R_alloc | apply Kd.R_drewN | apply Kd.R_drew)); exact Kd.R_mono HO224.out (fun _ hk => hk.2)))
 (case aS => exact (below_size (us_ HB.out)))
 (case aL => have := LMc21.out; have hlx_ := (show (l0_2.take ((ji14) : Int).toNat).length = (ji14).toNat from (by rw [List.length_take]; have h_ : ((ji14) : Int) ≤ (l0_2.length : Int) := of_decide_eq_true (by first | (with_reducible assumption) | assumption); omega)); omega)
 intro v227 w51 ho hb hg hat
 rw [← Ny226.out] at ho
 have n0_ := mk_ (blk_grown (g := gb202) (o := .cells #[.int .i64 a0_0, .int .i64 a0_1, .slice A0_2 l0_2.length c0_2, .slice A0_3 l0_3.length c0_3] 59 (0, 0)) (u_ BK202.out) hg (Kd.R_ne HO224.out BK202.out (by decide)))
 have n1_ := mk_ (blk_grown (g := gb203) (o := .cells #[.int .i64 0, .int .i64 0, .slice none 0 0, .slice none 0 0] 59 (0, 0)) (u_ BK203.out) hg (Kd.R_ne HO224.out BK203.out (by decide)))
 have n2_ := mk_ (Kd.R_after (ok := (fun _ => True)) (Kd.ur_ HO214.out) hg hat)
 have n3_ := mk_ (Kd.R_over' (Kd.ur_ HO220.out) (Kd.R_typed (Kd.ur_ HO224.out)) (by decide) hg)
 have n4_ := mk_ (blk_grown (g := gb221) (o := .cells #[.int .i64 a0_0, .int .i64 a0_1, .slice Ao41 y212.length co41, .slice Ao40 y218.length co40] 59 (0, 0)) (u_ BK221.out) hg (Kd.R_ne HO224.out BK221.out (by decide)))
 have n5_ := mk_ (hb)
 have n6_ := mk_ (ho)
 clear BK202
 clear BK203
 clear HO214
 clear HO220
 clear BK221
 clear HB
 clear HO224
 have BK202 := n0_
 have BK203 := n1_
 have HO214 := n2_
 have HO220 := n3_
 have BK221 := n4_
 have HB := n5_
 have HO228 := n6_
 clear n0_ n1_ n2_ n3_ n4_ n5_ n6_
 clear ho hb hg hat
 refine hK.out _ _ ⟨(blk_cell BK221.out 0).trans rfl, (blk_cell BK221.out 1).trans rfl, (blk_cell BK221.out 2).trans rfl, (blk_cell BK221.out 3).trans rfl, (blk_cell BK202.out 0).trans rfl, (blk_cell BK202.out 1).trans rfl, (blk_cell BK202.out 2).trans rfl, (blk_cell BK202.out 3).trans rfl⟩ (fun hHeld => ?_)
 clear hK K
 refine norm_ (a' := ?_) ?_ ?_
 rotate_left
 ·show Act.put _ (some 43) _ = _
  simp only [Act.put, la_, lz_, ls_, i64_w, i32_w]
  rfl
 refine one_ (i := 7) (N := none) #[T_, T_, T_, T_, T_, T_, T_, T_, F_] rfl rfl (one_of HT_.out (by kernel_rfl)) (by decide) (fun K hK => ?_)
 have hs52 : w51.cell? ⟨gb203, 0, none⟩ = some (.int .i64 0) := (blk_cell BK203.out 0).trans rfl
 have hfs52 := blk_frozen BK203.out 0
 have hns52_0 := NB202_203.out
 have hns52_2 := NB221_203.out
 have hms52_0 := NB203_202.out
 have hms52_2 := NB203_221.out
 have hs53 : w51.cell? ⟨gb203, 1, none⟩ = some (.int .i64 0) := (blk_cell BK203.out 1).trans rfl
 have hfs53 := blk_frozen BK203.out 1
 have hns53_0 := NB202_203.out
 have hns53_2 := NB221_203.out
 have hms53_0 := NB203_202.out
 have hms53_2 := NB203_221.out
 have hs54 : w51.cell? ⟨gb203, 2, none⟩ = some (.slice none 0 0) := (blk_cell BK203.out 2).trans rfl
 have hfs54 := blk_frozen BK203.out 2
 have hns54_0 := NB202_203.out
 have hns54_2 := NB221_203.out
 have hms54_0 := NB203_202.out
 have hms54_2 := NB203_221.out
 have hs55 : w51.cell? ⟨gb203, 3, none⟩ = some (.slice none 0 0) := (blk_cell BK203.out 3).trans rfl
 have hfs55 := blk_frozen BK203.out 3
 have hns55_0 := NB202_203.out
 have hns55_2 := NB221_203.out
 have hms55_0 := NB203_202.out
 have hms55_2 := NB203_221.out
 refine skip_ (w1 := ?_) (by rfl) rfl ?_ ?_
 rotate_left
 ·go_simp
  rfl
 refine hK.out _ _ ⟨((cell_far (p := ⟨gb203, _, none⟩) NB221_203.out _).trans (((cell_far (p := ⟨gb203, _, none⟩) NB221_203.out _).trans (((cell_far (p := ⟨gb203, _, none⟩) NB221_203.out _).trans (((cell_far (p := ⟨gb203, _, none⟩) NB221_203.out _).trans (hHeld.1)))))))), ((cell_far (p := ⟨gb203, _, none⟩) NB221_203.out _).trans (((cell_far (p := ⟨gb203, _, none⟩) NB221_203.out _).trans (((cell_far (p := ⟨gb203, _, none⟩) NB221_203.out _).trans (((cell_far (p := ⟨gb203, _, none⟩) NB221_203.out _).trans (hHeld.2.1)))))))), ((cell_far (p := ⟨gb203, _, none⟩) NB221_203.out _).trans (((cell_far (p := ⟨gb203, _, none⟩) NB221_203.out _).trans (((cell_far (p := ⟨gb203, _, none⟩) NB221_203.out _).trans (((cell_far (p := ⟨gb203, _, none⟩) NB221_203.out _).trans (hHeld.2.2.1)))))))), ((cell_far (p := ⟨gb203, _, none⟩) NB221_203.out _).trans (((cell_far (p := ⟨gb203, _, none⟩) NB221_203.out _).trans (((cell_far (p := ⟨gb203, _, none⟩) NB221_203.out _).trans (((cell_far (p := ⟨gb203, _, none⟩) NB221_203.out _).trans (hHeld.2.2.2.1)))))))), ((cell_far (p := ⟨gb203, _, none⟩) NB202_203.out _).trans (((cell_far (p := ⟨gb203, _, none⟩) NB202_203.out _).trans (((cell_far (p := ⟨gb203, _, none⟩) NB202_203.out _).trans (((cell_far (p := ⟨gb203, _, none⟩) NB202_203.out _).trans (hHeld.2.2.2.2.1)))))))), ((cell_far (p := ⟨gb203, _, none⟩) NB202_203.out _).trans (((cell_far (p := ⟨gb203, _, none⟩) NB202_203.out _).trans (((cell_far (p := ⟨gb203, _, none⟩) NB202_203.out _).trans (((cell_far (p := ⟨gb203, _, none⟩) NB202_203.out _).trans (hHeld.2.2.2.2.2.1)))))))), ((cell_far (p := ⟨gb203, _, none⟩) NB202_203.out _).trans (((cell_far (p := ⟨gb203, _, none⟩) NB202_203.out _).trans (((cell_far (p := ⟨gb203, _, none⟩) NB202_203.out _).trans (((cell_far (p := ⟨gb203, _, none⟩) NB202_203.out _).trans (hHeld.2.2.2.2.2.2.1)))))))), ((cell_far (p := ⟨gb203, _, none⟩) NB202_203.out _).trans (((cell_far (p := ⟨gb203, _, none⟩) NB202_203.out _).trans (((cell_far (p := ⟨gb203, _, none⟩) NB202_203.out _).trans (((cell_far (p := ⟨gb203, _, none⟩) NB202_203.out _).trans (hHeld.2.2.2.2.2.2.2))))))))⟩ (fun hHeld => ?_)
 clear hK K
 refine pure_ (i := 8) (N := some 5) (v := ?_) (a' := ?_) #[T_, T_, T_, T_, T_, T_, T_, T_, T_] rfl rfl (any_of HT_.out (by kernel_rfl)) (fun _ _ _ h => h) (Or.inl ⟨by rfl, ?_⟩) ?_ ?_
 rotate_left
 ·intro w'
  go_simp
  with_reducible rfl
 rotate_left
 ·simp only [Act.put, la_, lz_, ls_, i64_w, i32_w]
  rfl
 refine done_ (done_of HT_.out (by kernel_rfl)) ?_
 try go_wp2
 refine bodyPost_ret (results_ct rfl _ _ gb203 59 #[.int .i64 a0_0, .int .i64 a0_1, .slice Ao41 y212.length co41, .slice Ao40 y218.length co40] (0, 0) _ rfl (by (with_reducible repeat (first | refine bn_ ?_ _ | refine bw_ ?_ | refine ba_ ?_ _)); refine blk_put (cs := #[.int .i64 a0_0, .int .i64 a0_1, .slice Ao41 y212.length co41, .slice none 0 0]) ?_ 3 _ rfl; (with_reducible repeat (first | refine bn_ ?_ _ | refine bw_ ?_ | refine ba_ ?_ _)); refine blk_put (cs := #[.int .i64 a0_0, .int .i64 a0_1, .slice none 0 0, .slice none 0 0]) ?_ 2 _ rfl; (with_reducible repeat (first | refine bn_ ?_ _ | refine bw_ ?_ | refine ba_ ?_ _)); refine blk_put (cs := #[.int .i64 a0_0, .int .i64 0, .slice none 0 0, .slice none 0 0]) ?_ 1 _ rfl; (with_reducible repeat (first | refine bn_ ?_ _ | refine bw_ ?_ | refine ba_ ?_ _)); refine blk_put (cs := #[.int .i64 0, .int .i64 0, .slice none 0 0, .slice none 0 0]) ?_ 0 _ rfl; (with_reducible repeat (first | refine bn_ ?_ _ | refine bw_ ?_ | refine ba_ ?_ _)); exact BK203.out) Try.underlying59 rfl (by kernel_rfl)) rfl ?_
 exact ⟨_, _, _, by first | rfl | (simp [errW_none, errW_some] <;> rfl) | (simp only [← hji14]; first | rfl | (simp [errW_none, errW_some] <;> rfl)) | (simp [*, errW_none, errW_some] <;> rfl), by (with_reducible repeat (first | apply Kd.R_alloc | apply Kd.R_drewN | apply Kd.R_drew)); exact Kd.R_mono (Kd.R_far (p := ⟨gb203, 3, none⟩) (Kd.R_far (p := ⟨gb203, 2, none⟩) (Kd.R_far (p := ⟨gb203, 1, none⟩) (Kd.R_far (p := ⟨gb203, 0, none⟩) (Kd.R_types HO214.out BK203.out (by decide)) (fun _ hk => hk.2) (.int .i64 a0_0)) (fun _ hk => hk.2) (.int .i64 a0_1)) (fun _ hk => hk.2) (.slice Ao41 y212.length co41)) (fun _ hk => hk.2) (.slice Ao40 y218.length co40)) (fun _ hk => hk.1.2), by (with_reducible repeat (first | apply Kd.R_alloc | apply Kd.R_drewN | apply Kd.R_drew)); exact Kd.R_mono (Kd.R_far (p := ⟨gb203, 3, none⟩) (Kd.R_far (p := ⟨gb203, 2, none⟩) (Kd.R_far (p := ⟨gb203, 1, none⟩) (Kd.R_far (p := ⟨gb203, 0, none⟩) (Kd.R_types HO220.out BK203.out (by decide)) (fun _ hk => hk.2) (.int .i64 a0_0)) (fun _ hk => hk.2) (.int .i64 a0_1)) (fun _ hk => hk.2) (.slice Ao41 y212.length co41)) (fun _ hk => hk.2) (.slice Ao40 y218.length co40)) (fun _ hk => trivial), by (with_reducible repeat (first | apply Kd.R_alloc | apply Kd.R_drewN | apply Kd.R_drew)); exact Kd.R_mono (Kd.R_far (p := ⟨gb203, 3, none⟩) (Kd.R_far (p := ⟨gb203, 2, none⟩) (Kd.R_far (p := ⟨gb203, 1, none⟩) (Kd.R_far (p := ⟨gb203, 0, none⟩) (Kd.R_types HO228.out BK203.out (by decide)) (fun _ hk => hk.2) (.int .i64 a0_0)) (fun _ hk => hk.2) (.int .i64 a0_1)) (fun _ hk => hk.2) (.slice Ao41 y212.length co41)) (fun _ hk => hk.2) (.slice Ao40 y218.length co40)) (fun _ hk => hk.1), us_ HB.out⟩

end Go.Proofs.Ytkkibccnpkbbjab.MFnEarOk
