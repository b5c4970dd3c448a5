/- Functions that the law FnMouthOk reaches, each with the proof that the machine's call comes to just its answer; no conditions but those that each theorem states. Printed by a program of this session over the kit's print. -/
import Derived.Test.YtfcocnhkimbpbaaMFnMouthOkx0
import Derived.Test.YtfcocnhkimbpbaaMFnMouthOkx2
import Derived.Test.YtfcocnhkimbpbaaMFnMouthOkx3
namespace Go.Proofs.Ytfcocnhkimbpbaa.MFnMouthOk
open Go.RowKit Go.Proofs.YtfcocnhkimbpbaaV.PrintWords Go.Proofs.YtfcocnhkimbpbaaV.PrintLast Go.Proofs.YtfcocnhkimbpbaaV.PrintMore
attribute [local go_sem] max2_int min2_int max_two min_two max_three min_three max_four min_four   -- for this text's walks alone
set_option linter.unusedVariables false
set_option linter.unusedSimpArgs false

/-! ### spec_MouthNext: function 75 -/
def spec_MouthNext.j0 : Nat → Int → Bool → Int → List Int → Int → Int → List (S72) → Option (Int × List Int × Int × Int × (List (S72)) × Int × List Int)
 | 0, _, _, _, _, _, _, _ => none
 | k + 1, x1, x16, x204000, x204001, x204002, x204003, x204004 => if x16 = true then (some (0, ([] : List Int), 0, 0, ([] : List (S72)), 0, (([] : List Int)))) else ((spec_l13Copy.f x204000 x204001 x204002 x204003 x204004).bind fun bt210 => (if (mn (mn (x204001.length : Int) x204003) (wrap64 (x204002 + x1))) ≤ x204002 then (some (bt210.1, bt210.2.1, bt210.2.2.1, bt210.2.2.2.1, bt210.2.2.2.2, wrap64 (x204000 + x204002), (([] : List Int)))) else ((some (([] : List Int) : List Int)).bind fun y223 => (if 0 ≤ x204002 then (if x204002 ≤ (mn (mn (x204001.length : Int) x204003) (wrap64 (x204002 + x1))) then (if (mn (mn (x204001.length : Int) x204003) (wrap64 (x204002 + x1))) ≤ (x204001.length : Int) then (if y223.length + ((x204001.take ((mn (mn (x204001.length : Int) x204003) (wrap64 (x204002 + x1))) : Int).toNat).drop (x204002 : Int).toNat).length < 140737488355328 then (some (bt210.1, bt210.2.1, mn (mn (x204001.length : Int) x204003) (wrap64 (x204002 + x1)), bt210.2.2.2.1, bt210.2.2.2.2, wrap64 (x204000 + x204002), (y223 ++ ((x204001.take ((mn (mn (x204001.length : Int) x204003) (wrap64 (x204002 + x1))) : Int).toNat).drop (x204002 : Int).toNat)))) else (none)) else (none)) else (none)) else (none)))))
def spec_MouthNext.f (k : Nat) (a0_0 : Int) (l0_1 : List Int) (a0_2 : Int) (a0_3 : Int) (l0_4 : List (S72)) (a1 : Int) : Option (Int × List Int × Int × Int × (List (S72)) × Int × List Int) := (spec_MouthOk.f k a0_0 l0_1 a0_2 a0_3 l0_4).bind fun t205 => (if t205 = true then ((spec_l1In.f a1 1 12).bind fun t206 => (spec_MouthNext.j0 k a1 (!t206) a0_0 l0_1 a0_2 a0_3 l0_4)) else (spec_MouthNext.j0 k a1 true a0_0 l0_1 a0_2 a0_3 l0_4))
theorem spec_MouthNext.mono_l : ∀ k, (∀ y0 y1 y2 y3 y4 y5 y6, LeO (spec_MouthNext.j0 k y0 y1 y2 y3 y4 y5 y6) (spec_MouthNext.j0 (k + 1) y0 y1 y2 y3 y4 y5 y6))
 | 0 => fun _ _ _ _ _ _ _ r h => by simp [spec_MouthNext.j0] at h
 | k + 1 => by
  have ih0 := spec_MouthNext.mono_l k
  ·intro y0 y1 y2 y3 y4 y5 y6
   unfold spec_MouthNext.j0
   repeat' first
   | (with_reducible exact ih0 _ _ _ _ _ _ _)
   | (with_reducible exact spec_MouthOk.mono _ _ _ _ _ _)
   | (with_reducible exact LeO.refl _)
   | (with_reducible exact LeO.none _)
   | (with_reducible refine LeO.ite ?_ ?_)
   | (with_reducible refine LeO.bind ?_ (fun _ => ?_))
   | exact ih0 _ _ _ _ _ _ _
   | exact spec_MouthOk.mono _ _ _ _ _ _
   | exact LeO.none _
   | refine LeO.ite ?_ ?_
   | refine LeO.bind ?_ (fun _ => ?_)
theorem spec_MouthNext.mono : ∀ a0 a1 a2 a3 a4 a5 k, LeO (spec_MouthNext.f k a0 a1 a2 a3 a4 a5) (spec_MouthNext.f (k + 1) a0 a1 a2 a3 a4 a5) := by
 intro a0 a1 a2 a3 a4 a5 k
 have ih0 := spec_MouthNext.mono_l k
 unfold spec_MouthNext.f
 repeat' first
   | (with_reducible exact ih0 _ _ _ _ _ _ _)
   | (with_reducible exact spec_MouthOk.mono _ _ _ _ _ _)
   | (with_reducible exact LeO.refl _)
   | (with_reducible exact LeO.none _)
   | (with_reducible refine LeO.ite ?_ ?_)
   | (with_reducible refine LeO.bind ?_ (fun _ => ?_))
   | exact ih0 _ _ _ _ _ _ _
   | exact spec_MouthOk.mono _ _ _ _ _ _
   | exact LeO.none _
   | refine LeO.ite ?_ ?_
   | refine LeO.bind ?_ (fun _ => ?_)
def spec_MouthNext.T6 : Bool × List (List Nat × List Nat) := (true, [([], []), ([], []), ([1], [1]), ([], []), ([3], [3]), ([2, 4], [2, 4]), ([], []), ([0, 0], [0]), ([5, 7, 0, 1, 2, 3, 4, 5, 7], [5]), ([6, 8, 0, 1, 2, 3, 4, 5, 6, 7, 8], [6])])
def spec_MouthNext.B6 : List Nat := [0, 0, 2, 0, 8, 30, 0, 1, 191, 511]
theorem spec_MouthNext.tab6 : rtab .any (opsOf Try.f75 6) = spec_MouthNext.T6 := by kernel_rfl
theorem spec_MouthNext.bits6 : waitsOk spec_MouthNext.T6.2 spec_MouthNext.B6 = true := by kernel_rfl
def spec_MouthNext.T8 : Bool × List (List Nat × List Nat) := (true, [([], []), ([], []), ([1], [1]), ([], []), ([3], [3]), ([2, 4], [2, 4]), ([], []), ([], []), ([7], [7]), ([], []), ([9], [9]), ([], []), ([8, 10, 11], [8, 10, 11]), ([6, 12], [6, 12]), ([0, 13, 0], [0]), ([5, 14, 0, 1, 2, 3, 4, 5, 14], [5]), ([13, 15, 0, 1, 2, 3, 4, 5, 6, 7, 8, 9, 10, 11, 12, 13, 14, 15], [13])])
def spec_MouthNext.B8 : List Nat := [0, 0, 2, 0, 8, 30, 0, 0, 128, 0, 512, 0, 3968, 8128, 16321, 32767, 65535]
theorem spec_MouthNext.tab8 : rtab .any (opsOf Try.f75 8) = spec_MouthNext.T8 := by kernel_rfl
theorem spec_MouthNext.bits8 : waitsOk spec_MouthNext.T8.2 spec_MouthNext.B8 = true := by kernel_rfl
set_option maxHeartbeats 8000000 in
set_option maxRecDepth 100000 in
theorem spec_MouthNext.calls (k : Nat) (a0_0 : Int) (A0_1 : Option Addr) (c0_1 : Nat) (l0_1 : List Int) (a0_2 : Int) (a0_3 : Int) (A0_4 : Option Addr) (c0_4 : Nat) (l0_4 : List (S72)) (a1 : Int) (r1 : Int) (r2 : List Int) (r3 : Int) (r4 : Int) (r5 : List (S72)) (r6 : Int) (r7 : List Int) (w : World) (hr0_1 : Kd.C (Kd.int .u8) w A0_1 l0_1.length l0_1) (hc0_1 : l0_1.length ≤ c0_1) (hr0_4 : Kd.C k72 w A0_4 l0_4.length l0_4) (hc0_4 : l0_4.length ≤ c0_4) (h : spec_MouthNext.f k a0_0 l0_1 a0_2 a0_3 l0_4 a1 = some (r1, r2, r3, r4, r5, r6, r7)) :
  Calls Try.prog 75 #[.agg #[.int .i64 a0_0, .slice A0_1 l0_1.length c0_1, .int .i64 a0_2, .int .i64 a0_3, .slice A0_4 l0_4.length c0_4], .int .i64 a1] w fun e w' => ∃ v1_ v4_ v6_ : Value, e = .returned (.tuple #[.agg #[.int .i64 r1, v1_, .int .i64 r3, .int .i64 r4, v4_], .int .i64 r6, v6_]) ∧ Kd.R (Kd.int .u8) 5 w' w.heap.size (fun k_ => some k_ ≠ (v6_ : Value).ownBlock) v1_ r2 ∧ Kd.R k72 72 w' w.heap.size (fun _ => True) v4_ r5 ∧ Kd.R (Kd.int .u8) 5 w' w.heap.size (fun k_ => some k_ ≠ (v1_ : Value).ownBlock) v6_ r7 ∧ Below w.heap.size w w' := by
 have hu51 := Try.underlying51
 have HR0_1 := mk_ hr0_1
 have HC0_1 := mk_ hc0_1
 clear hr0_1 hc0_1
 have HR0_4 := mk_ hr0_4
 have HC0_4 := mk_ hc0_4
 clear hr0_4 hc0_4
 have HB := mk_ (Below.refl w.heap.size w)
 have H : ((spec_MouthOk.f k a0_0 l0_1 a0_2 a0_3 l0_4).bind fun t205 => (if t205 = true then ((spec_l1In.f a1 1 12).bind fun t206 => (spec_MouthNext.j0 k a1 (!t206) a0_0 l0_1 a0_2 a0_3 l0_4)) else (spec_MouthNext.j0 k a1 true a0_0 l0_1 a0_2 a0_3 l0_4))) = some (r1, r2, r3, r4, r5, r6, r7) := h
 clear h
 have HC3 := mk_ H
 clear H
 go_enter Try.func75, Try.ntmps75
 go_upto_region 1 with (first | ((with_reducible refine gate_dst (N := 2) rfl ?_); refine box_event ?hg (N := 2) ?hd (cs := #[.int .i64 a0_0, .slice A0_1 l0_1.length c0_1, .int .i64 a0_2, .int .i64 a0_3, .slice A0_4 l0_4.length c0_4]) (t := 51) ?hr ?_; (case hd => rfl); (case hg => rfl); (case hr => first | (go_simp; done) | (go_simp; rfl)); intro gb203 hg w4 hbox hb; have n0_ := mk_ (below_step (ub_ HB.out) hb); have n1_ := mk_ (hbox); have n2_ := mk_ ((by rw [hg]; exact (below_size (ub_ HB.out)) : w.heap.size ≤ gb203)); have n3_ := mk_ ((by rw [hg]; exact (below_size (ub_ HB.out)) : w.heap.size ≤ gb203)); clear HB; have HB := n0_; have BK203 := n1_; have GW203 := n2_; have GE203 := ge_ n3_.out; clear n0_ n1_ n2_ n3_; clear hb hbox hg) | ((with_reducible refine gate_dst (N := 4) rfl ?_); refine box_event ?hg (N := 4) ?hd (cs := #[.int .i64 0, .slice none 0 0, .int .i64 0, .int .i64 0, .slice none 0 0]) (t := 51) ?hr ?_; (case hd => rfl); (case hg => rfl); (case hr => first | (go_simp; done) | (go_simp; rfl)); intro gb204 hg w5 hbox hb; have n0_ := mk_ (blk_below (u_ BK203.out) hb); have n1_ := mk_ (below_step (us_ HB.out) hb); have n2_ := mk_ (hbox); have n3_ := mk_ ((by rw [hg]; exact (below_size (us_ HB.out)) : w.heap.size ≤ gb204)); have n4_ := mk_ ((by rw [hg]; exact (below_size (us_ HB.out)) : w.heap.size ≤ gb204)); have n5_ := mk_ ((by rw [hg]; exact Nat.ne_of_lt (blk_lt (u_ BK203.out)) : gb203 ≠ gb204)); have n6_ := mk_ ((by rw [hg]; exact Nat.ne_of_gt (blk_lt (u_ BK203.out)) : gb204 ≠ gb203)); clear BK203; clear HB; have BK203 := n0_; have HB := n1_; have BK204 := n2_; have GW204 := n3_; have GE204 := ge_ n4_.out; have NB203_204 := nq_ n5_.out; have NB204_203 := nq_ n6_.out; clear n0_ n1_ n2_ n3_ n4_ n5_ n6_; clear hb hbox hg))
 (try simp only [Act.put, la_, lz_, ls_])
 go_cut [16] (fun v16 wc => ∃ (kq : Nat) (x16_2 : Bool), v16 = .bool x16_2 ∧ Aside0 (spec_MouthNext.j0 kq a1 x16_2 a0_0 l0_1 a0_2 a0_3 l0_4 = some (r1, r2, r3, r4, r5, r6, r7)) ∧ Aside0 (kq ≤ k) ∧ Aside0 (wc.heap[gb203]? = some (.cells #[.int .i64 a0_0, (.slice A0_1 l0_1.length c0_1), .int .i64 a0_2, .int .i64 a0_3, (.slice A0_4 l0_4.length c0_4)] 51 (0, 0))) ∧ Aside0 (wc.heap[gb204]? = some (.cells #[.int .i64 0, (.slice none 0 0), .int .i64 0, .int .i64 0, (.slice none 0 0)] 51 (0, 0))) ∧ Aside0 (Below w.heap.size w wc))
 case first =>
  have H := HC3.out
  clear HC3
  replace H := Option.bind_eq_some_iff.mp H
  obtain ⟨t205, A60, H⟩ := H
  replace H : (if t205 = true then ((spec_l1In.f a1 1 12).bind fun t206 => (spec_MouthNext.j0 k a1 (!t206) a0_0 l0_1 a0_2 a0_3 l0_4)) else (spec_MouthNext.j0 k a1 true a0_0 l0_1 a0_2 a0_3 l0_4)) = some (r1, r2, r3, r4, r5, r6, r7) := H
  have A6 := mk_ A60
  clear A60
  by_cases c7 : t205 = true
  rotate_left
  ·replace c7 := Bool.eq_false_iff.mpr c7
   subst c7
   have H1 : (spec_MouthNext.j0 k a1 true a0_0 l0_1 a0_2 a0_3 l0_4) = some (r1, r2, r3, r4, r5, r6, r7) := by rw [if_neg (show ¬ (false = true) by decide)] at H; exact H
   clear H
   have H := H1
   clear H1
   have H' := mk_ H
   clear H
   have hnb12 := NB203_204.out
   have hnc12 := NB204_203.out
   obtain ⟨hcz13_0, hcz13_1, hcz13_2, hcz13_3, hcz13_4, hfz13_0, hfz13_1, hfz13_2, hfz13_3, hfz13_4⟩ := cells5_ BK203.out
   go_wp2_with (first | ((with_reducible refine gate_callee (f := 32) rfl ?_); refine goesL_ (some 10) rfl rfl Try.func32 (by kernel_rfl) rfl #[.agg #[.int .i64 a0_0, .slice A0_1 l0_1.length c0_1, .int .i64 a0_2, .int .i64 a0_3, .slice A0_4 l0_4.length c0_4]] rfl (by (try simp only [lm_, lo_, ln_]); first | done | rfl | (simp only [List.length_drop, List.length_take]; rfl)) ?_; (with_reducible refine (spec_MouthOk.calls k a0_0 _ _ l0_1 a0_2 a0_3 _ _ l0_4 false _ ?side1 ?side2 ?side3 ?side4 A6.out).mono ?_); (case side1 => repeat (first | exact (Kd.C_below HR0_1.out HB.out) | (with_reducible refine Kd.C_alloc ?_ _) | (with_reducible refine Kd.C_drewN ?_ _) | (with_reducible refine Kd.C_drew ?_))); (case side2 => exact HC0_1.out); (case side3 => repeat (first | exact (Kd.C_below HR0_4.out HB.out) | (with_reducible refine Kd.C_alloc ?_ _) | (with_reducible refine Kd.C_drewN ?_ _) | (with_reducible refine Kd.C_drew ?_))); (case side4 => exact HC0_4.out); rintro e w14 ⟨rfl, hb⟩; refine ⟨_, rfl, ?_⟩; have n0_ := mk_ (blk_below (u_ BK203.out) hb); have n1_ := mk_ (blk_below (u_ BK204.out) hb); have n2_ := mk_ (below_step (us_ HB.out) hb); clear BK203; clear BK204; clear HB; have BK203 := n0_; have BK204 := n1_; have HB := n2_; clear n0_ n1_ n2_; (try clear hb); (try clear hb2); (try clear hk); (try clear hi)))
   go_meet
   case rel => exact ⟨_, (true), (by first | rfl | (simp; done) | (simp [*]; done)), H', ⟨by first | omega | exact Nat.le_refl _⟩, ⟨u_ BK203.out⟩, ⟨u_ BK204.out⟩, ⟨us_ HB.out⟩⟩
  subst c7
  have H1 : ((spec_l1In.f a1 1 12).bind fun t206 => (spec_MouthNext.j0 k a1 (!t206) a0_0 l0_1 a0_2 a0_3 l0_4)) = some (r1, r2, r3, r4, r5, r6, r7) := by rw [if_pos rfl] at H; exact H
  clear H
  have H := H1
  clear H1
  replace H := Option.bind_eq_some_iff.mp H
  obtain ⟨t206, A80, H⟩ := H
  replace H : (spec_MouthNext.j0 k a1 (!t206) a0_0 l0_1 a0_2 a0_3 l0_4) = some (r1, r2, r3, r4, r5, r6, r7) := H
  have A8 := mk_ A80
  clear A80
  have H' := mk_ H
  clear H
  have hnb9 := NB203_204.out
  have hnc9 := NB204_203.out
  obtain ⟨hcz10_0, hcz10_1, hcz10_2, hcz10_3, hcz10_4, hfz10_0, hfz10_1, hfz10_2, hfz10_3, hfz10_4⟩ := cells5_ BK203.out
  go_wp2_with (first | ((with_reducible refine gate_callee (f := 32) rfl ?_); refine goesL_ (some 10) rfl rfl Try.func32 (by kernel_rfl) rfl #[.agg #[.int .i64 a0_0, .slice A0_1 l0_1.length c0_1, .int .i64 a0_2, .int .i64 a0_3, .slice A0_4 l0_4.length c0_4]] rfl (by (try simp only [lm_, lo_, ln_]); first | done | rfl | (simp only [List.length_drop, List.length_take]; rfl)) ?_; (with_reducible refine (spec_MouthOk.calls k a0_0 _ _ l0_1 a0_2 a0_3 _ _ l0_4 true _ ?side1 ?side2 ?side3 ?side4 A6.out).mono ?_); (case side1 => repeat (first | exact (Kd.C_below HR0_1.out HB.out) | (with_reducible refine Kd.C_alloc ?_ _) | (with_reducible refine Kd.C_drewN ?_ _) | (with_reducible refine Kd.C_drew ?_))); (case side2 => exact HC0_1.out); (case side3 => repeat (first | exact (Kd.C_below HR0_4.out HB.out) | (with_reducible refine Kd.C_alloc ?_ _) | (with_reducible refine Kd.C_drewN ?_ _) | (with_reducible refine Kd.C_drew ?_))); (case side4 => exact HC0_4.out); rintro e w11 ⟨rfl, hb⟩; refine ⟨_, rfl, ?_⟩; have n0_ := mk_ (blk_below (u_ BK203.out) hb); have n1_ := mk_ (blk_below (u_ BK204.out) hb); have n2_ := mk_ (below_step (us_ HB.out) hb); clear BK203; clear BK204; clear HB; have BK203 := n0_; have BK204 := n1_; have HB := n2_; clear n0_ n1_ n2_; (try clear hb); (try clear hb2); (try clear hk); (try clear hi)) | (go_at_call 35; (with_reducible refine (spec_l1In.calls a1 1 12 t206 _ A8.out).mono ?_); rintro e w' ⟨rfl, ⟨nd, rfl⟩⟩))
  go_meet
  case rel => exact ⟨_, (!t206), (by first | rfl | (simp; done) | (simp [*]; done)), H', ⟨by first | omega | exact Nat.le_refl _⟩, ⟨u_ BK203.out⟩, ⟨u_ BK204.out⟩, ⟨us_ HB.out⟩⟩
 case rest =>
  clear HC3
  try clear c1
  try clear p2
  try clear c3
  try clear c7
  try clear c9
  try clear c12
  try clear hcz10_0
  try clear hcz10_1
  try clear hcz10_2
  try clear hcz10_3
  try clear hcz10_4
  try clear hcz13_0
  try clear hcz13_1
  try clear hcz13_2
  try clear hcz13_3
  try clear hcz13_4
  try clear hfz10_0
  try clear hfz10_1
  try clear hfz10_2
  try clear hfz10_3
  try clear hfz10_4
  try clear hfz13_0
  try clear hfz13_1
  try clear hfz13_2
  try clear hfz13_3
  try clear hfz13_4
  obtain ⟨kq, x16_2, rfl, HA, HJ2, BK203, BK204, HB⟩ := hcut
  cases kq with
  | zero => exact absurd HA.out (by simp [spec_MouthNext.j0])
  | succ kj2 =>
   have H := HA.out
   clear HA
   simp only [spec_MouthNext.j0] at H
   by_cases c15 : x16_2 = true
   ·subst c15
    have H1 : (some (0, ([] : List Int), 0, 0, ([] : List (S72)), 0, (([] : List Int)))) = some (r1, r2, r3, r4, r5, r6, r7) := by rw [if_pos rfl] at H; exact H
    clear H
    have H := H1
    clear H1
    obtain ⟨y207, hy207⟩ : ∃ y_ : List Int, y_ = (([] : List Int)) := ⟨_, rfl⟩
    replace H : (some (0, ([] : List Int), 0, 0, ([] : List (S72)), 0, y207)) = some (r1, r2, r3, r4, r5, r6, r7) := by first | (rw [hy207]; with_reducible exact H) | (have H2_ := (Option.bind_some _ _).symm.trans H; rw [hy207]; with_reducible exact H2_) | (have H2_ := (Option.bind_some _ _).symm.trans H; with_reducible exact H2_) | with_reducible exact H | (rw [hy207]; exact H) | exact H
    have Ny207 := mk_ hy207
    clear hy207
    simp only [Option.some.injEq, Prod.mk.injEq] at H
    obtain ⟨rfl, rfl, rfl, rfl, rfl, rfl, rfl⟩ := H
    go_wp2_with (first | ((with_reducible refine gate_dst (N := 18) rfl ?_); refine Kd.R_lit (Kd.int .u8) _ 5 ?hg (N := 18) ?hd (xs := ([] : List Int)) (inner := []) (ok := fun _ => True) (okp := fun _ => True) ?hr ?hp (fun _ hk => hk) trivial (Below.refl _ _) (Nat.le_refl _) (by simp) ?_; (case hd => rfl); (case hg => rfl); (case hr => first | (go_simp; done) | (go_simp; rfl)); (case hp => exact (Reps.none _ _)); intro v208 w16 ho17 hb hg_ hnew_; clear hg_ hnew_; (first | rw [← Ny207.out] at ho17 | (simp only [Int.reduceToNat] at ho17; rw [← Ny207.out] at ho17)); have n0_ := mk_ (Kd.R_lower ho17 (below_size (us_ HB.out))); have n1_ := mk_ (blk_below (u_ BK203.out) hb); have n2_ := mk_ (blk_below (u_ BK204.out) hb); have n3_ := mk_ (below_step (us_ HB.out) hb); clear BK203; clear BK204; clear HB; have HO209 := n0_; have BK203 := n1_; have BK204 := n2_; have HB := n3_; clear n0_ n1_ n2_ n3_; clear hb ho17; have hnb18 := NB204_203.out; have hnc18 := NB203_204.out; obtain ⟨hcz19_0, hcz19_1, hcz19_2, hcz19_3, hcz19_4, hfz19_0, hfz19_1, hfz19_2, hfz19_3, hfz19_4⟩ := cells5_ BK204.out))
    refine bodyPost_ret (results_ctt rfl _ _ gb204 51 #[.int .i64 0, .slice none 0 0, .int .i64 0, .int .i64 0, .slice none 0 0] (0, 0) _ rfl (by (with_reducible repeat (first | refine bn_ ?_ _ | refine bw_ ?_ | refine ba_ ?_ _)); refine blk_put (cs := #[.int .i64 0, .slice none 0 0, .int .i64 0, .int .i64 0, .slice none 0 0]) ?_ 4 _ rfl; (with_reducible repeat (first | refine bn_ ?_ _ | refine bw_ ?_ | refine ba_ ?_ _)); refine blk_put (cs := #[.int .i64 0, .slice none 0 0, .int .i64 0, .int .i64 0, .slice none 0 0]) ?_ 3 _ rfl; (with_reducible repeat (first | refine bn_ ?_ _ | refine bw_ ?_ | refine ba_ ?_ _)); refine blk_put (cs := #[.int .i64 0, .slice none 0 0, .int .i64 0, .int .i64 0, .slice none 0 0]) ?_ 2 _ rfl; (with_reducible repeat (first | refine bn_ ?_ _ | refine bw_ ?_ | refine ba_ ?_ _)); refine blk_put (cs := #[.int .i64 0, .slice none 0 0, .int .i64 0, .int .i64 0, .slice none 0 0]) ?_ 1 _ rfl; (with_reducible repeat (first | refine bn_ ?_ _ | refine bw_ ?_ | refine ba_ ?_ _)); refine blk_put (cs := #[.int .i64 0, .slice none 0 0, .int .i64 0, .int .i64 0, .slice none 0 0]) ?_ 0 _ rfl; (with_reducible repeat (first | refine bn_ ?_ _ | refine bw_ ?_ | refine ba_ ?_ _)); exact BK204.out) Try.underlying51 rfl (by kernel_rfl)) rfl ?_
    exact ⟨_, _, _, by first | rfl | (simp [errW_none, errW_some] <;> rfl) | (simp [*, errW_none, errW_some] <;> rfl), by first | exact Kd.R_nil _ _ _ _ _ | exact Kd.N_nil _ _ _ _ _ | exact Kd.V_nil _ _ _ _ _ | exact Kd.Q_nil _ _ _ _ _ | exact Kd.S_nil _ _ _ _ _, by first | exact Kd.R_nil _ _ _ _ _ | exact Kd.N_nil _ _ _ _ _ | exact Kd.V_nil _ _ _ _ _ | exact Kd.Q_nil _ _ _ _ _ | exact Kd.S_nil _ _ _ _ _, by (with_reducible repeat (first | apply Kd.R_alloc | apply Kd.R_drewN | apply Kd.R_drew)); exact Kd.R_mono (Kd.R_far (p := ⟨gb204, 4, none⟩) (Kd.R_far (p := ⟨gb204, 3, none⟩) (Kd.R_far (p := ⟨gb204, 2, none⟩) (Kd.R_far (p := ⟨gb204, 1, none⟩) (Kd.R_far (p := ⟨gb204, 0, none⟩) (Kd.R_types HO209.out BK204.out (by decide)) (fun _ hk => hk.2) (.int .i64 0)) (fun _ hk => hk.2) (.slice none 0 0)) (fun _ hk => hk.2) (.int .i64 0)) (fun _ hk => hk.2) (.int .i64 0)) (fun _ hk => hk.2) (.slice none 0 0)) (fun _ hk => (by simp [Value.ownBlock])), us_ HB.out⟩
   replace c15 := Bool.eq_false_iff.mpr c15
   subst c15
   have H1 : ((spec_l13Copy.f a0_0 l0_1 a0_2 a0_3 l0_4).bind fun bt210 => (if (mn (mn (l0_1.length : Int) a0_3) (wrap64 (a0_2 + a1))) ≤ a0_2 then (some (bt210.1, bt210.2.1, bt210.2.2.1, bt210.2.2.2.1, bt210.2.2.2.2, wrap64 (a0_0 + a0_2), (([] : List Int)))) else ((some (([] : List Int) : List Int)).bind fun y223 => (if 0 ≤ a0_2 then (if a0_2 ≤ (mn (mn (l0_1.length : Int) a0_3) (wrap64 (a0_2 + a1))) then (if (mn (mn (l0_1.length : Int) a0_3) (wrap64 (a0_2 + a1))) ≤ (l0_1.length : Int) then (if y223.length + ((l0_1.take ((mn (mn (l0_1.length : Int) a0_3) (wrap64 (a0_2 + a1))) : Int).toNat).drop (a0_2 : Int).toNat).length < 140737488355328 then (some (bt210.1, bt210.2.1, mn (mn (l0_1.length : Int) a0_3) (wrap64 (a0_2 + a1)), bt210.2.2.2.1, bt210.2.2.2.2, wrap64 (a0_0 + a0_2), (y223 ++ ((l0_1.take ((mn (mn (l0_1.length : Int) a0_3) (wrap64 (a0_2 + a1))) : Int).toNat).drop (a0_2 : Int).toNat)))) else (none)) else (none)) else (none)) else (none))))) = some (r1, r2, r3, r4, r5, r6, r7) := by rw [if_neg (show ¬ (false = true) by decide)] at H; exact H
   clear H
   have H := H1
   clear H1
   replace H := Option.bind_eq_some_iff.mp H
   obtain ⟨⟨t210, t211, t214, t215, t216⟩, A200, H⟩ := H
   replace H : (if (mn (mn (l0_1.length : Int) a0_3) (wrap64 (a0_2 + a1))) ≤ a0_2 then (some (t210, t211, t214, t215, t216, wrap64 (a0_0 + a0_2), (([] : List Int)))) else ((some (([] : List Int) : List Int)).bind fun y223 => (if 0 ≤ a0_2 then (if a0_2 ≤ (mn (mn (l0_1.length : Int) a0_3) (wrap64 (a0_2 + a1))) then (if (mn (mn (l0_1.length : Int) a0_3) (wrap64 (a0_2 + a1))) ≤ (l0_1.length : Int) then (if y223.length + ((l0_1.take ((mn (mn (l0_1.length : Int) a0_3) (wrap64 (a0_2 + a1))) : Int).toNat).drop (a0_2 : Int).toNat).length < 140737488355328 then (some (t210, t211, mn (mn (l0_1.length : Int) a0_3) (wrap64 (a0_2 + a1)), t215, t216, wrap64 (a0_0 + a0_2), (y223 ++ ((l0_1.take ((mn (mn (l0_1.length : Int) a0_3) (wrap64 (a0_2 + a1))) : Int).toNat).drop (a0_2 : Int).toNat)))) else (none)) else (none)) else (none)) else (none)))) = some (r1, r2, r3, r4, r5, r6, r7) := H
   have A20 := mk_ A200
   clear A200
   obtain ⟨ji21, hji21⟩ : ∃ j_ : Int, (mn (l0_1.length : Int) a0_3) = j_ := ⟨_, rfl⟩
   replace H : (if (mn (ji21) (wrap64 (a0_2 + a1))) ≤ a0_2 then (some (t210, t211, t214, t215, t216, wrap64 (a0_0 + a0_2), (([] : List Int)))) else ((some (([] : List Int) : List Int)).bind fun y223 => (if 0 ≤ a0_2 then (if a0_2 ≤ (mn (ji21) (wrap64 (a0_2 + a1))) then (if (mn (ji21) (wrap64 (a0_2 + a1))) ≤ (l0_1.length : Int) then (if y223.length + ((l0_1.take ((mn (ji21) (wrap64 (a0_2 + a1))) : Int).toNat).drop (a0_2 : Int).toNat).length < 140737488355328 then (some (t210, t211, mn (ji21) (wrap64 (a0_2 + a1)), t215, t216, wrap64 (a0_0 + a0_2), (y223 ++ ((l0_1.take ((mn (ji21) (wrap64 (a0_2 + a1))) : Int).toNat).drop (a0_2 : Int).toNat)))) else (none)) else (none)) else (none)) else (none)))) = some (r1, r2, r3, r4, r5, r6, r7) := by first | (rw [hji21] at H; exact H) | (simp only [hji21] at H ⊢; exact H)
   (try rw [hji21] at A20)
   have hji21_ : (if a0_3 < (l0_1.length : Int) then a0_3 else (l0_1.length : Int)) = ji21 := hji21
   obtain ⟨ji22, hji22⟩ : ∃ j_ : Int, (mn (ji21) (wrap64 (a0_2 + a1))) = j_ := ⟨_, rfl⟩
   replace H : (if (ji22) ≤ a0_2 then (some (t210, t211, t214, t215, t216, wrap64 (a0_0 + a0_2), (([] : List Int)))) else ((some (([] : List Int) : List Int)).bind fun y223 => (if 0 ≤ a0_2 then (if a0_2 ≤ (ji22) then (if (ji22) ≤ (l0_1.length : Int) then (if y223.length + ((l0_1.take ((ji22) : Int).toNat).drop (a0_2 : Int).toNat).length < 140737488355328 then (some (t210, t211, ji22, t215, t216, wrap64 (a0_0 + a0_2), (y223 ++ ((l0_1.take ((ji22) : Int).toNat).drop (a0_2 : Int).toNat)))) else (none)) else (none)) else (none)) else (none)))) = some (r1, r2, r3, r4, r5, r6, r7) := by first | (rw [hji22] at H; exact H) | (simp only [hji22] at H ⊢; exact H)
   (try rw [hji22] at A20)
   have hji22_ : (if (wrap64 (a0_2 + a1)) < (ji21) then (wrap64 (a0_2 + a1)) else (ji21)) = ji22 := hji22
   by_cases c23 : (ji22) ≤ a0_2
   ·rw [if_pos c23] at H
    have c23b0 : decide ((ji22) ≤ a0_2) = true := decide_eq_true c23
    clear c23
    obtain ⟨y220, hy220⟩ : ∃ y_ : List Int, y_ = (([] : List Int)) := ⟨_, rfl⟩
    replace H : (some (t210, t211, t214, t215, t216, wrap64 (a0_0 + a0_2), y220)) = some (r1, r2, r3, r4, r5, r6, r7) := by first | (rw [hy220]; with_reducible exact H) | (have H2_ := (Option.bind_some _ _).symm.trans H; rw [hy220]; with_reducible exact H2_) | (have H2_ := (Option.bind_some _ _).symm.trans H; with_reducible exact H2_) | with_reducible exact H | (rw [hy220]; exact H) | exact H
    have Ny220 := mk_ hy220
    clear hy220
    simp only [Option.some.injEq, Prod.mk.injEq] at H
    obtain ⟨rfl, rfl, rfl, rfl, rfl, rfl, rfl⟩ := H
    have hnb24 := NB203_204.out
    have hnc24 := NB204_203.out
    obtain ⟨hcz25_0, hcz25_1, hcz25_2, hcz25_3, hcz25_4, hfz25_0, hfz25_1, hfz25_2, hfz25_3, hfz25_4⟩ := cells5_ BK203.out
    try go_wp2_with (first | ((with_reducible refine gate_callee (f := 82) rfl ?_); refine goesL_ (some 20) rfl rfl Try.func82 (by kernel_rfl) rfl #[.agg #[.int .i64 a0_0, .slice A0_1 l0_1.length c0_1, .int .i64 a0_2, .int .i64 a0_3, .slice A0_4 l0_4.length c0_4]] rfl (by (try simp only [lm_, lo_, ln_]); first | done | rfl | (simp only [List.length_drop, List.length_take]; rfl)) ?_; (with_reducible refine (spec_l13Copy.calls a0_0 _ _ l0_1 a0_2 a0_3 _ _ l0_4 t210 t211 t214 t215 t216 _ ?side1 ?side2 ?side3 ?side4 A20.out).mono ?_); (case side1 => repeat (first | exact (Kd.C_below HR0_1.out HB.out) | (with_reducible refine Kd.C_alloc ?_ _) | (with_reducible refine Kd.C_drewN ?_ _) | (with_reducible refine Kd.C_drew ?_))); (case side2 => exact HC0_1.out); (case side3 => repeat (first | exact (Kd.C_below HR0_4.out HB.out) | (with_reducible refine Kd.C_alloc ?_ _) | (with_reducible refine Kd.C_drewN ?_ _) | (with_reducible refine Kd.C_drew ?_))); (case side4 => exact HC0_4.out); rintro e w26 ⟨v212, v217, rfl, ho0, ho1, hb⟩; refine ⟨_, rfl, ?_⟩; have n0_ := mk_ (Kd.R_lower ho0 (below_size (us_ HB.out))); have n1_ := mk_ (Kd.R_lower ho1 (below_size (us_ HB.out))); have n2_ := mk_ (blk_below (u_ BK203.out) hb); have n3_ := mk_ (blk_below (u_ BK204.out) hb); have n4_ := mk_ (below_step (us_ HB.out) hb); clear BK203; clear BK204; clear HB; have HO213 := n0_; have HO218 := n1_; have BK203 := n2_; have BK204 := n3_; have HB := n4_; clear n0_ n1_ n2_ n3_ n4_; (try clear hb); (try clear hb2); (try clear hk); (try clear hi); (try clear ho0); (try clear ho1)) | ((with_reducible refine gate_dst (N := 7) rfl ?_); refine box_event ?hg (N := 7) ?hd (cs := #[.int .i64 0, .slice none 0 0, .int .i64 0, .int .i64 0, .slice none 0 0]) (t := 51) ?hr ?_; (case hd => rfl); (case hg => rfl); (case hr => first | (go_simp; done) | (go_simp; rfl)); intro gb219 hg w27 hbox hb; have n0_ := mk_ (Kd.R_below (Kd.ur_ HO213.out) hb); have n1_ := mk_ (Kd.R_below (Kd.ur_ HO218.out) hb); have n2_ := mk_ (blk_below (u_ BK203.out) hb); have n3_ := mk_ (blk_below (u_ BK204.out) hb); have n4_ := mk_ (below_step (us_ HB.out) hb); have n5_ := mk_ (hbox); have n6_ := mk_ ((by rw [hg]; exact (below_size (us_ HB.out)) : w.heap.size ≤ gb219)); have n7_ := mk_ ((by rw [hg]; exact (below_size (us_ HB.out)) : w.heap.size ≤ gb219)); have n8_ := mk_ ((by rw [hg]; exact Nat.ne_of_lt (blk_lt (u_ BK203.out)) : gb203 ≠ gb219)); have n9_ := mk_ ((by rw [hg]; exact Nat.ne_of_gt (blk_lt (u_ BK203.out)) : gb219 ≠ gb203)); have n10_ := mk_ ((by rw [hg]; exact Nat.ne_of_lt (blk_lt (u_ BK204.out)) : gb204 ≠ gb219)); have n11_ := mk_ ((by rw [hg]; exact Nat.ne_of_gt (blk_lt (u_ BK204.out)) : gb219 ≠ gb204)); clear HO213; clear HO218; clear BK203; clear BK204; clear HB; have HO213 := n0_; have HO218 := n1_; have BK203 := n2_; have BK204 := n3_; have HB := n4_; have BK219 := n5_; have GW219 := n6_; have GE219 := ge_ n7_.out; have NB203_219 := nq_ n8_.out; have NB219_203 := nq_ n9_.out; have NB204_219 := nq_ n10_.out; have NB219_204 := nq_ n11_.out; clear n0_ n1_ n2_ n3_ n4_ n5_ n6_ n7_ n8_ n9_ n10_ n11_; clear hb hbox hg; have hnb28 := NB219_203.out; have hnc28 := NB203_219.out; have hnb29 := NB219_204.out; have hnc29 := NB204_219.out; obtain ⟨hcz30_0, hcz30_1, hcz30_2, hcz30_3, hcz30_4, hfz30_0, hfz30_1, hfz30_2, hfz30_3, hfz30_4⟩ := cells5_ BK219.out; obtain ⟨Ao31, co31, eo31⟩ := Kd.R_slice HO213.out; subst eo31; obtain ⟨Ao32, co32, eo32⟩ := Kd.R_slice HO218.out; subst eo32; obtain ⟨hcz33_0, hcz33_1, hcz33_2, hcz33_3, hcz33_4, hfz33_0, hfz33_1, hfz33_2, hfz33_3, hfz33_4⟩ := cells5_ BK203.out))
    have n0_ : Aside0 (Kd.R (Kd.int .u8) 5 (((((w27.setCell ⟨gb219, 0, none⟩ (.int .i64 t210)).setCell ⟨gb219, 1, none⟩ (.slice Ao31 t211.length co31)).setCell ⟨gb219, 2, none⟩ (.int .i64 t214)).setCell ⟨gb219, 3, none⟩ (.int .i64 t215)).setCell ⟨gb219, 4, none⟩ (.slice Ao32 t216.length co32)) w.heap.size (fun _ => True) (.slice Ao31 t211.length co31) t211) := ⟨by (with_reducible repeat (first | apply Kd.R_alloc | apply Kd.R_drewN | apply Kd.R_drew)); exact Kd.R_mono (Kd.R_far (p := ⟨gb219, 4, none⟩) (Kd.R_far (p := ⟨gb219, 3, none⟩) (Kd.R_far (p := ⟨gb219, 2, none⟩) (Kd.R_far (p := ⟨gb219, 1, none⟩) (Kd.R_far (p := ⟨gb219, 0, none⟩) (Kd.R_types HO213.out BK219.out (by decide)) (fun _ hk => hk.2) (.int .i64 t210)) (fun _ hk => hk.2) (.slice Ao31 t211.length co31)) (fun _ hk => hk.2) (.int .i64 t214)) (fun _ hk => hk.2) (.int .i64 t215)) (fun _ hk => hk.2) (.slice Ao32 t216.length co32)) (fun _ hk => trivial)⟩
    have n1_ : Aside0 (Kd.R k72 72 (((((w27.setCell ⟨gb219, 0, none⟩ (.int .i64 t210)).setCell ⟨gb219, 1, none⟩ (.slice Ao31 t211.length co31)).setCell ⟨gb219, 2, none⟩ (.int .i64 t214)).setCell ⟨gb219, 3, none⟩ (.int .i64 t215)).setCell ⟨gb219, 4, none⟩ (.slice Ao32 t216.length co32)) w.heap.size (fun _ => True) (.slice Ao32 t216.length co32) t216) := ⟨by (with_reducible repeat (first | apply Kd.R_alloc | apply Kd.R_drewN | apply Kd.R_drew)); exact Kd.R_mono (Kd.R_far (p := ⟨gb219, 4, none⟩) (Kd.R_far (p := ⟨gb219, 3, none⟩) (Kd.R_far (p := ⟨gb219, 2, none⟩) (Kd.R_far (p := ⟨gb219, 1, none⟩) (Kd.R_far (p := ⟨gb219, 0, none⟩) (Kd.R_types HO218.out BK219.out (by decide)) (fun _ hk => hk.2) (.int .i64 t210)) (fun _ hk => hk.2) (.slice Ao31 t211.length co31)) (fun _ hk => hk.2) (.int .i64 t214)) (fun _ hk => hk.2) (.int .i64 t215)) (fun _ hk => hk.2) (.slice Ao32 t216.length co32)) (fun _ hk => trivial)⟩
    have n2_ : Aside0 ((((((w27.setCell ⟨gb219, 0, none⟩ (.int .i64 t210)).setCell ⟨gb219, 1, none⟩ (.slice Ao31 t211.length co31)).setCell ⟨gb219, 2, none⟩ (.int .i64 t214)).setCell ⟨gb219, 3, none⟩ (.int .i64 t215)).setCell ⟨gb219, 4, none⟩ (.slice Ao32 t216.length co32)).heap[gb203]? = some (.cells #[.int .i64 a0_0, .slice A0_1 l0_1.length c0_1, .int .i64 a0_2, .int .i64 a0_3, .slice A0_4 l0_4.length c0_4] 51 (0, 0))) := ⟨uf_ BK203.out⟩
    have n3_ : Aside0 ((((((w27.setCell ⟨gb219, 0, none⟩ (.int .i64 t210)).setCell ⟨gb219, 1, none⟩ (.slice Ao31 t211.length co31)).setCell ⟨gb219, 2, none⟩ (.int .i64 t214)).setCell ⟨gb219, 3, none⟩ (.int .i64 t215)).setCell ⟨gb219, 4, none⟩ (.slice Ao32 t216.length co32)).heap[gb204]? = some (.cells #[.int .i64 0, .slice none 0 0, .int .i64 0, .int .i64 0, .slice none 0 0] 51 (0, 0))) := ⟨uf_ BK204.out⟩
    have n4_ : Aside0 ((((((w27.setCell ⟨gb219, 0, none⟩ (.int .i64 t210)).setCell ⟨gb219, 1, none⟩ (.slice Ao31 t211.length co31)).setCell ⟨gb219, 2, none⟩ (.int .i64 t214)).setCell ⟨gb219, 3, none⟩ (.int .i64 t215)).setCell ⟨gb219, 4, none⟩ (.slice Ao32 t216.length co32)).heap[gb219]? = some (.cells #[.int .i64 t210, .slice Ao31 t211.length co31, .int .i64 t214, .int .i64 t215, .slice Ao32 t216.length co32] 51 (0, 0))) := ⟨by (with_reducible repeat (first | refine bn_ ?_ _ | refine bw_ ?_ | refine ba_ ?_ _)); refine blk_put (cs := #[.int .i64 t210, .slice Ao31 t211.length co31, .int .i64 t214, .int .i64 t215, .slice none 0 0]) ?_ 4 _ rfl; (with_reducible repeat (first | refine bn_ ?_ _ | refine bw_ ?_ | refine ba_ ?_ _)); refine blk_put (cs := #[.int .i64 t210, .slice Ao31 t211.length co31, .int .i64 t214, .int .i64 0, .slice none 0 0]) ?_ 3 _ rfl; (with_reducible repeat (first | refine bn_ ?_ _ | refine bw_ ?_ | refine ba_ ?_ _)); refine blk_put (cs := #[.int .i64 t210, .slice Ao31 t211.length co31, .int .i64 0, .int .i64 0, .slice none 0 0]) ?_ 2 _ rfl; (with_reducible repeat (first | refine bn_ ?_ _ | refine bw_ ?_ | refine ba_ ?_ _)); refine blk_put (cs := #[.int .i64 t210, .slice none 0 0, .int .i64 0, .int .i64 0, .slice none 0 0]) ?_ 1 _ rfl; (with_reducible repeat (first | refine bn_ ?_ _ | refine bw_ ?_ | refine ba_ ?_ _)); refine blk_put (cs := #[.int .i64 0, .slice none 0 0, .int .i64 0, .int .i64 0, .slice none 0 0]) ?_ 0 _ rfl; (with_reducible repeat (first | refine bn_ ?_ _ | refine bw_ ?_ | refine ba_ ?_ _)); exact BK219.out⟩
    have n5_ : Aside0 (Below w.heap.size w (((((w27.setCell ⟨gb219, 0, none⟩ (.int .i64 t210)).setCell ⟨gb219, 1, none⟩ (.slice Ao31 t211.length co31)).setCell ⟨gb219, 2, none⟩ (.int .i64 t214)).setCell ⟨gb219, 3, none⟩ (.int .i64 t215)).setCell ⟨gb219, 4, none⟩ (.slice Ao32 t216.length co32))) := ⟨us_ HB.out⟩
    (try clear HO213)
    (try clear HO218)
    (try clear BK203)
    (try clear BK204)
    (try clear BK219)
    (try clear HB)
    generalize (((((w27.setCell ⟨gb219, 0, none⟩ (.int .i64 t210)).setCell ⟨gb219, 1, none⟩ (.slice Ao31 t211.length co31)).setCell ⟨gb219, 2, none⟩ (.int .i64 t214)).setCell ⟨gb219, 3, none⟩ (.int .i64 t215)).setCell ⟨gb219, 4, none⟩ (.slice Ao32 t216.length co32)) = w34 at n0_ n1_ n2_ n3_ n4_ n5_ ⊢
    have HO213 := n0_
    have HO218 := n1_
    have BK203 := n2_
    have BK204 := n3_
    have BK219 := n4_
    have HB := n5_
    clear n0_ n1_ n2_ n3_ n4_ n5_
    have n0_ := mk_ (Kd.R_drew HO213.out)
    have n1_ := mk_ (Kd.R_drew HO218.out)
    have n2_ := mk_ (blk_drew BK203.out)
    have n3_ := mk_ (blk_drew BK204.out)
    have n4_ := mk_ (blk_drew BK219.out)
    have n5_ := mk_ (below_drew1 HB.out)
    clear HO213
    clear HO218
    clear BK203
    clear BK204
    clear BK219
    clear HB
    have HO213 := n0_
    have HO218 := n1_
    have BK203 := n2_
    have BK204 := n3_
    have BK219 := n4_
    have HB := n5_
    clear n0_ n1_ n2_ n3_ n4_ n5_
    refine start_ (n := 10) (S := fun w' => w'.cell? ⟨gb219, 0, none⟩ = some (.int .i64 t210) ∧ w'.cell? ⟨gb219, 1, none⟩ = some (.slice Ao31 t211.length co31) ∧ w'.cell? ⟨gb219, 2, none⟩ = some (.int .i64 t214) ∧ w'.cell? ⟨gb219, 3, none⟩ = some (.int .i64 t215) ∧ w'.cell? ⟨gb219, 4, none⟩ = some (.slice Ao32 t216.length co32) ∧ w'.cell? ⟨gb203, 0, none⟩ = some (.int .i64 a0_0) ∧ w'.cell? ⟨gb203, 1, none⟩ = some (.slice A0_1 l0_1.length c0_1) ∧ w'.cell? ⟨gb203, 2, none⟩ = some (.int .i64 a0_2) ∧ w'.cell? ⟨gb203, 3, none⟩ = some (.int .i64 a0_3) ∧ w'.cell? ⟨gb203, 4, none⟩ = some (.slice A0_4 l0_4.length c0_4)) (ds := []) #[F_, F_, F_, F_, F_, F_, F_, F_, F_, F_] (by kernel_rfl) rfl rfl ⟨(blk_cell BK219.out 0).trans rfl, (blk_cell BK219.out 1).trans rfl, (blk_cell BK219.out 2).trans rfl, (blk_cell BK219.out 3).trans rfl, (blk_cell BK219.out 4).trans rfl, (blk_cell BK203.out 0).trans rfl, (blk_cell BK203.out 1).trans rfl, (blk_cell BK203.out 2).trans rfl, (blk_cell BK203.out 3).trans rfl, (blk_cell BK203.out 4).trans rfl⟩ (fun hHeld => ?_); refine with_tabW spec_MouthNext.tab6 spec_MouthNext.bits6 (fun HT_ HW_ => ?_)
    generalize w34.drew = w35 at HO213 HO218 BK203 BK204 BK219 HB hHeld ⊢
    refine pure_ (i := 1) (N := some 36) (v := ?_) (a' := ?_) #[F_, T_, F_, F_, F_, F_, F_, F_, F_, F_] rfl rfl (any_of HT_.out (by kernel_rfl)) (fun _ _ _ h => h) (Or.inl ⟨by rfl, ?_⟩) ?_ ?_
    rotate_left
    ·intro w'
     go_simp
     with_reducible rfl
    rotate_left
    ·simp only [Act.put, la_, lz_, ls_, i64_w, i32_w]
     rfl
    refine pure_ (i := 3) (N := some 38) (v := ?_) (a' := ?_) #[F_, T_, F_, T_, F_, F_, F_, F_, F_, F_] rfl rfl (any_of HT_.out (by kernel_rfl)) (fun _ _ _ h => h) (Or.inl ⟨by rfl, ?_⟩) ?_ ?_
    rotate_left
    ·intro w'
     go_simp
     with_reducible rfl
    rotate_left
    ·simp only [Act.put, la_, lz_, ls_, i64_w, i32_w]
     rfl
    refine take_ (i := 0) (N := some 35) (v := ?_) (a' := ?_) #[T_, T_, F_, T_, F_, F_, F_, F_, F_, F_] rfl rfl (take_ofW HT_.out HW_.out (by kernel_rfl)) (fun _ _ _ h => h) (Or.inl ⟨by rfl, ?_⟩) hHeld ?_ ?_
    rotate_left
    ·rintro w' ⟨s0, s1, s2, s3, s4, s5, s6, s7, s8, s9⟩
     go_simp
     with_reducible rfl
    rotate_left
    ·simp only [Act.put, la_, lz_, ls_, i64_w, i32_w]
     rfl
    refine take_ (i := 2) (N := some 37) (v := ?_) (a' := ?_) #[T_, T_, T_, T_, F_, F_, F_, F_, F_, F_] rfl rfl (take_ofW HT_.out HW_.out (by kernel_rfl)) (fun _ _ _ h => h) (Or.inl ⟨by rfl, ?_⟩) hHeld ?_ ?_
    rotate_left
    ·rintro w' ⟨s0, s1, s2, s3, s4, s5, s6, s7, s8, s9⟩
     go_simp
     with_reducible rfl
    rotate_left
    ·simp only [Act.put, la_, lz_, ls_, i64_w, i32_w]
     rfl
    refine take_ (i := 4) (N := some 39) (v := ?_) (a' := ?_) #[T_, T_, T_, T_, T_, F_, F_, F_, F_, F_] rfl rfl (take_ofW HT_.out HW_.out (by kernel_rfl)) (fun _ _ _ h => h) (Or.inl ⟨by rfl, ?_⟩) hHeld ?_ ?_
    rotate_left
    ·rintro w' ⟨s0, s1, s2, s3, s4, s5, s6, s7, s8, s9⟩
     go_simp
     with_reducible rfl
    rotate_left
    ·simp only [Act.put, la_, lz_, ls_, i64_w, i32_w]
     rfl
    refine pure_ (i := 5) (N := some 40) (v := ?_) (a' := ?_) #[T_, T_, T_, T_, T_, T_, F_, F_, F_, F_] rfl rfl (any_of HT_.out (by kernel_rfl)) (fun _ _ _ h => h) (Or.inl ⟨by rfl, ?_⟩) ?_ ?_
    rotate_left
    ·intro w'
     go_simp
     with_reducible rfl
    rotate_left
    ·simp only [Act.put, la_, lz_, ls_, i64_w, i32_w]
     rfl
    refine join_ (σ := Value) 1 #[T_, T_, T_, T_, T_, T_, T_, T_, T_, F_] (fun s_ => [(41, s_), (5, .int .i64 (wrap64 (a0_0 + a0_2)))]) (fun s_ w' => (w'.cell? ⟨gb219, 0, none⟩ = some (.int .i64 t210) ∧ w'.cell? ⟨gb219, 1, none⟩ = some (.slice Ao31 t211.length co31) ∧ w'.cell? ⟨gb219, 2, none⟩ = some (.int .i64 t214) ∧ w'.cell? ⟨gb219, 3, none⟩ = some (.int .i64 t215) ∧ w'.cell? ⟨gb219, 4, none⟩ = some (.slice Ao32 t216.length co32) ∧ w'.cell? ⟨gb203, 0, none⟩ = some (.int .i64 a0_0) ∧ w'.cell? ⟨gb203, 1, none⟩ = some (.slice A0_1 l0_1.length c0_1) ∧ w'.cell? ⟨gb203, 2, none⟩ = some (.int .i64 a0_2) ∧ w'.cell? ⟨gb203, 3, none⟩ = some (.int .i64 a0_3) ∧ w'.cell? ⟨gb203, 4, none⟩ = some (.slice A0_4 l0_4.length c0_4)) ∧ (Kd.R (Kd.int .u8) 5 w' w.heap.size (fun k_ => some k_ ≠ (s_ : Value).ownBlock) (.slice Ao31 t211.length co31) t211) ∧ (Kd.R k72 72 w' w.heap.size (fun _ => True) (.slice Ao32 t216.length co32) t216) ∧ (Kd.R (Kd.int .u8) 5 w' w.heap.size (fun k_ => some k_ ≠ (.slice Ao31 t211.length co31 : Value).ownBlock) s_ y220) ∧ (w'.heap[gb203]? = some (.cells #[.int .i64 a0_0, .slice A0_1 l0_1.length c0_1, .int .i64 a0_2, .int .i64 a0_3, .slice A0_4 l0_4.length c0_4] 51 (0, 0))) ∧ (w'.heap[gb204]? = some (.cells #[.int .i64 t210, .slice Ao31 t211.length co31, .int .i64 t214, .int .i64 t215, .slice Ao32 t216.length co32] 51 (0, 0))) ∧ (w'.heap[gb219]? = some (.cells #[.int .i64 t210, .slice Ao31 t211.length co31, .int .i64 t214, .int .i64 t215, .slice Ao32 t216.length co32] 51 (0, 0))) ∧ (Below w.heap.size w w')) ?_ ?_
    rotate_left
    ·intro hCont
     refine two_ (i := 6) (j := 7) (Ni := some 41) (Nj := none) #[T_, T_, T_, T_, T_, T_, T_, F_, F_, F_] #[T_, T_, T_, T_, T_, T_, F_, T_, F_, F_] rfl rfl rfl rfl (two_of HT_.out (by kernel_rfl)) (by decide) (by decide) (fun K hK => ?_) (fun K hK => ?_)
     ·skip
      refine Kd.R_lit_step (Kd.int .u8) _ 5 ?hg (N := 41) ?hd (xs := ([] : List Int)) (inner := []) (ok := fun _ => True) (okp := fun _ => True) ?hr ?hp (fun _ hk => hk) trivial (Below.refl _ _) (Nat.le_refl _) (by simp) ?_; (case hd => rfl); (case hg => rfl); (case hr => first | (go_simp; done) | (go_simp; rfl)); (case hp => exact (Reps.none _ _))
      intro v221 w36 ho37 hb hg_ hnew_
      clear hg_ hnew_
      (first | rw [← Ny220.out] at ho37 | (simp only [Int.reduceToNat] at ho37; rw [← Ny220.out] at ho37))
      have n0_ := mk_ (Kd.R_elder' (Kd.ur_ HO213.out) (Kd.R_base ho37) hb)
      have n1_ := mk_ (Kd.R_below (Kd.ur_ HO218.out) hb)
      have n2_ := mk_ (Kd.R_lower (Kd.R_new' ho37 (Kd.R_lt (Kd.ur_ HO213.out))) (below_size (us_ HB.out)))
      have n3_ := mk_ (blk_below (u_ BK203.out) hb)
      have n4_ := mk_ (blk_below (u_ BK204.out) hb)
      have n5_ := mk_ (blk_below (u_ BK219.out) hb)
      have n6_ := mk_ (below_step (us_ HB.out) hb)
      clear HO213
      clear HO218
      clear BK203
      clear BK204
      clear BK219
      clear HB
      have HO213 := n0_
      have HO218 := n1_
      have HO222 := n2_
      have BK203 := n3_
      have BK204 := n4_
      have BK219 := n5_
      have HB := n6_
      clear n0_ n1_ n2_ n3_ n4_ n5_ n6_
      clear hb ho37
      refine hK.out _ _ ⟨(blk_cell BK219.out 0).trans rfl, (blk_cell BK219.out 1).trans rfl, (blk_cell BK219.out 2).trans rfl, (blk_cell BK219.out 3).trans rfl, (blk_cell BK219.out 4).trans rfl, (blk_cell BK203.out 0).trans rfl, (blk_cell BK203.out 1).trans rfl, (blk_cell BK203.out 2).trans rfl, (blk_cell BK203.out 3).trans rfl, (blk_cell BK203.out 4).trans rfl⟩ (fun hHeld => ?_)
      clear hK K
      refine norm_ (a' := ?_) ?_ ?_
      rotate_left
      ·show Act.put _ (some 41) _ = _
       simp only [Act.put, la_, lz_, ls_, i64_w, i32_w]
       rfl
      refine one_ (i := 7) (N := none) #[T_, T_, T_, T_, T_, T_, T_, T_, F_, F_] rfl rfl (one_of HT_.out (by kernel_rfl)) (by decide) (fun K hK => ?_)
      have hs38 : w36.cell? ⟨gb204, 0, none⟩ = some (.int .i64 0) := (blk_cell BK204.out 0).trans rfl
      have hfs38 := blk_frozen BK204.out 0
      have hns38_0 := NB203_204.out
      have hns38_2 := NB219_204.out
      have hms38_0 := NB204_203.out
      have hms38_2 := NB204_219.out
      have hs39 : w36.cell? ⟨gb204, 1, none⟩ = some (.slice none 0 0) := (blk_cell BK204.out 1).trans rfl
      have hfs39 := blk_frozen BK204.out 1
      have hns39_0 := NB203_204.out
      have hns39_2 := NB219_204.out
      have hms39_0 := NB204_203.out
      have hms39_2 := NB204_219.out
      have hs40 : w36.cell? ⟨gb204, 2, none⟩ = some (.int .i64 0) := (blk_cell BK204.out 2).trans rfl
      have hfs40 := blk_frozen BK204.out 2
      have hns40_0 := NB203_204.out
      have hns40_2 := NB219_204.out
      have hms40_0 := NB204_203.out
      have hms40_2 := NB204_219.out
      have hs41 : w36.cell? ⟨gb204, 3, none⟩ = some (.int .i64 0) := (blk_cell BK204.out 3).trans rfl
      have hfs41 := blk_frozen BK204.out 3
      have hns41_0 := NB203_204.out
      have hns41_2 := NB219_204.out
      have hms41_0 := NB204_203.out
      have hms41_2 := NB204_219.out
      have hs42 : w36.cell? ⟨gb204, 4, none⟩ = some (.slice none 0 0) := (blk_cell BK204.out 4).trans rfl
      have hfs42 := blk_frozen BK204.out 4
      have hns42_0 := NB203_204.out
      have hns42_2 := NB219_204.out
      have hms42_0 := NB204_203.out
      have hms42_2 := NB204_219.out
      refine skip_ (w1 := ?_) (by rfl) rfl ?_ ?_
      rotate_left
      ·go_simp
       rfl
      refine hK.out _ _ ⟨((cell_far (p := ⟨gb204, _, none⟩) NB219_204.out _).trans (((cell_far (p := ⟨gb204, _, none⟩) NB219_204.out _).trans (((cell_far (p := ⟨gb204, _, none⟩) NB219_204.out _).trans (((cell_far (p := ⟨gb204, _, none⟩) NB219_204.out _).trans (((cell_far (p := ⟨gb204, _, none⟩) NB219_204.out _).trans (hHeld.1)))))))))), ((cell_far (p := ⟨gb204, _, none⟩) NB219_204.out _).trans (((cell_far (p := ⟨gb204, _, none⟩) NB219_204.out _).trans (((cell_far (p := ⟨gb204, _, none⟩) NB219_204.out _).trans (((cell_far (p := ⟨gb204, _, none⟩) NB219_204.out _).trans (((cell_far (p := ⟨gb204, _, none⟩) NB219_204.out _).trans (hHeld.2.1)))))))))), ((cell_far (p := ⟨gb204, _, none⟩) NB219_204.out _).trans (((cell_far (p := ⟨gb204, _, none⟩) NB219_204.out _).trans (((cell_far (p := ⟨gb204, _, none⟩) NB219_204.out _).trans (((cell_far (p := ⟨gb204, _, none⟩) NB219_204.out _).trans (((cell_far (p := ⟨gb204, _, none⟩) NB219_204.out _).trans (hHeld.2.2.1)))))))))), ((cell_far (p := ⟨gb204, _, none⟩) NB219_204.out _).trans (((cell_far (p := ⟨gb204, _, none⟩) NB219_204.out _).trans (((cell_far (p := ⟨gb204, _, none⟩) NB219_204.out _).trans (((cell_far (p := ⟨gb204, _, none⟩) NB219_204.out _).trans (((cell_far (p := ⟨gb204, _, none⟩) NB219_204.out _).trans (hHeld.2.2.2.1)))))))))), ((cell_far (p := ⟨gb204, _, none⟩) NB219_204.out _).trans (((cell_far (p := ⟨gb204, _, none⟩) NB219_204.out _).trans (((cell_far (p := ⟨gb204, _, none⟩) NB219_204.out _).trans (((cell_far (p := ⟨gb204, _, none⟩) NB219_204.out _).trans (((cell_far (p := ⟨gb204, _, none⟩) NB219_204.out _).trans (hHeld.2.2.2.2.1)))))))))), ((cell_far (p := ⟨gb204, _, none⟩) NB203_204.out _).trans (((cell_far (p := ⟨gb204, _, none⟩) NB203_204.out _).trans (((cell_far (p := ⟨gb204, _, none⟩) NB203_204.out _).trans (((cell_far (p := ⟨gb204, _, none⟩) NB203_204.out _).trans (((cell_far (p := ⟨gb204, _, none⟩) NB203_204.out _).trans (hHeld.2.2.2.2.2.1)))))))))), ((cell_far (p := ⟨gb204, _, none⟩) NB203_204.out _).trans (((cell_far (p := ⟨gb204, _, none⟩) NB203_204.out _).trans (((cell_far (p := ⟨gb204, _, none⟩) NB203_204.out _).trans (((cell_far (p := ⟨gb204, _, none⟩) NB203_204.out _).trans (((cell_far (p := ⟨gb204, _, none⟩) NB203_204.out _).trans (hHeld.2.2.2.2.2.2.1)))))))))), ((cell_far (p := ⟨gb204, _, none⟩) NB203_204.out _).trans (((cell_far (p := ⟨gb204, _, none⟩) NB203_204.out _).trans (((cell_far (p := ⟨gb204, _, none⟩) NB203_204.out _).trans (((cell_far (p := ⟨gb204, _, none⟩) NB203_204.out _).trans (((cell_far (p := ⟨gb204, _, none⟩) NB203_204.out _).trans (hHeld.2.2.2.2.2.2.2.1)))))))))), ((cell_far (p := ⟨gb204, _, none⟩) NB203_204.out _).trans (((cell_far (p := ⟨gb204, _, none⟩) NB203_204.out _).trans (((cell_far (p := ⟨gb204, _, none⟩) NB203_204.out _).trans (((cell_far (p := ⟨gb204, _, none⟩) NB203_204.out _).trans (((cell_far (p := ⟨gb204, _, none⟩) NB203_204.out _).trans (hHeld.2.2.2.2.2.2.2.2.1)))))))))), ((cell_far (p := ⟨gb204, _, none⟩) NB203_204.out _).trans (((cell_far (p := ⟨gb204, _, none⟩) NB203_204.out _).trans (((cell_far (p := ⟨gb204, _, none⟩) NB203_204.out _).trans (((cell_far (p := ⟨gb204, _, none⟩) NB203_204.out _).trans (((cell_far (p := ⟨gb204, _, none⟩) NB203_204.out _).trans (hHeld.2.2.2.2.2.2.2.2.2))))))))))⟩ (fun hHeld => ?_)
      clear hK K
      refine pure_ (i := 8) (N := some 5) (v := ?_) (a' := ?_) #[T_, T_, T_, T_, T_, T_, T_, T_, T_, F_] rfl rfl (any_of HT_.out (by kernel_rfl)) (fun _ _ _ h => h) (Or.inl ⟨by rfl, ?_⟩) ?_ ?_
      rotate_left
      ·intro w'
       go_simp
       with_reducible rfl
      rotate_left
      ·simp only [Act.put, la_, lz_, ls_, i64_w, i32_w]
       rfl
      exact norm_ (by simp only [putAll, Act.put, la_, lz_, ls_]) (hCont (v221) _ ⟨hHeld, (by (with_reducible repeat (first | apply Kd.R_alloc | apply Kd.R_drewN | apply Kd.R_drew)); exact Kd.R_mono (Kd.R_far (p := ⟨gb204, 4, none⟩) (Kd.R_far (p := ⟨gb204, 3, none⟩) (Kd.R_far (p := ⟨gb204, 2, none⟩) (Kd.R_far (p := ⟨gb204, 1, none⟩) (Kd.R_far (p := ⟨gb204, 0, none⟩) (Kd.R_types HO213.out BK204.out (by decide)) (fun _ hk => hk.2) (.int .i64 t210)) (fun _ hk => hk.2) (.slice Ao31 t211.length co31)) (fun _ hk => hk.2) (.int .i64 t214)) (fun _ hk => hk.2) (.int .i64 t215)) (fun _ hk => hk.2) (.slice Ao32 t216.length co32)) (fun _ hk => hk.1.2)), (by (with_reducible repeat (first | apply Kd.R_alloc | apply Kd.R_drewN | apply Kd.R_drew)); exact Kd.R_mono (Kd.R_far (p := ⟨gb204, 4, none⟩) (Kd.R_far (p := ⟨gb204, 3, none⟩) (Kd.R_far (p := ⟨gb204, 2, none⟩) (Kd.R_far (p := ⟨gb204, 1, none⟩) (Kd.R_far (p := ⟨gb204, 0, none⟩) (Kd.R_types HO218.out BK204.out (by decide)) (fun _ hk => hk.2) (.int .i64 t210)) (fun _ hk => hk.2) (.slice Ao31 t211.length co31)) (fun _ hk => hk.2) (.int .i64 t214)) (fun _ hk => hk.2) (.int .i64 t215)) (fun _ hk => hk.2) (.slice Ao32 t216.length co32)) (fun _ hk => trivial)), (by (with_reducible repeat (first | apply Kd.R_alloc | apply Kd.R_drewN | apply Kd.R_drew)); exact Kd.R_mono (Kd.R_far (p := ⟨gb204, 4, none⟩) (Kd.R_far (p := ⟨gb204, 3, none⟩) (Kd.R_far (p := ⟨gb204, 2, none⟩) (Kd.R_far (p := ⟨gb204, 1, none⟩) (Kd.R_far (p := ⟨gb204, 0, none⟩) (Kd.R_types HO222.out BK204.out (by decide)) (fun _ hk => hk.2) (.int .i64 t210)) (fun _ hk => hk.2) (.slice Ao31 t211.length co31)) (fun _ hk => hk.2) (.int .i64 t214)) (fun _ hk => hk.2) (.int .i64 t215)) (fun _ hk => hk.2) (.slice Ao32 t216.length co32)) (fun _ hk => hk.1.2)), (uf_ BK203.out), (by (with_reducible repeat (first | refine bn_ ?_ _ | refine bw_ ?_ | refine ba_ ?_ _)); refine blk_put (cs := #[.int .i64 t210, .slice Ao31 t211.length co31, .int .i64 t214, .int .i64 t215, .slice none 0 0]) ?_ 4 _ rfl; (with_reducible repeat (first | refine bn_ ?_ _ | refine bw_ ?_ | refine ba_ ?_ _)); refine blk_put (cs := #[.int .i64 t210, .slice Ao31 t211.length co31, .int .i64 t214, .int .i64 0, .slice none 0 0]) ?_ 3 _ rfl; (with_reducible repeat (first | refine bn_ ?_ _ | refine bw_ ?_ | refine ba_ ?_ _)); refine blk_put (cs := #[.int .i64 t210, .slice Ao31 t211.length co31, .int .i64 0, .int .i64 0, .slice none 0 0]) ?_ 2 _ rfl; (with_reducible repeat (first | refine bn_ ?_ _ | refine bw_ ?_ | refine ba_ ?_ _)); refine blk_put (cs := #[.int .i64 t210, .slice none 0 0, .int .i64 0, .int .i64 0, .slice none 0 0]) ?_ 1 _ rfl; (with_reducible repeat (first | refine bn_ ?_ _ | refine bw_ ?_ | refine ba_ ?_ _)); refine blk_put (cs := #[.int .i64 0, .slice none 0 0, .int .i64 0, .int .i64 0, .slice none 0 0]) ?_ 0 _ rfl; (with_reducible repeat (first | refine bn_ ?_ _ | refine bw_ ?_ | refine ba_ ?_ _)); exact BK204.out), (uf_ BK219.out), (us_ HB.out)⟩)
     skip
     have hs36 : w35.cell? ⟨gb204, 0, none⟩ = some (.int .i64 0) := (blk_cell BK204.out 0).trans rfl
     have hfs36 := blk_frozen BK204.out 0
     have hns36_0 := NB203_204.out
     have hns36_2 := NB219_204.out
     have hms36_0 := NB204_203.out
     have hms36_2 := NB204_219.out
     have hs37 : w35.cell? ⟨gb204, 1, none⟩ = some (.slice none 0 0) := (blk_cell BK204.out 1).trans rfl
     have hfs37 := blk_frozen BK204.out 1
     have hns37_0 := NB203_204.out
     have hns37_2 := NB219_204.out
     have hms37_0 := NB204_203.out
     have hms37_2 := NB204_219.out
     have hs38 : w35.cell? ⟨gb204, 2, none⟩ = some (.int .i64 0) := (blk_cell BK204.out 2).trans rfl
     have hfs38 := blk_frozen BK204.out 2
     have hns38_0 := NB203_204.out
     have hns38_2 := NB219_204.out
     have hms38_0 := NB204_203.out
     have hms38_2 := NB204_219.out
     have hs39 : w35.cell? ⟨gb204, 3, none⟩ = some (.int .i64 0) := (blk_cell BK204.out 3).trans rfl
     have hfs39 := blk_frozen BK204.out 3
     have hns39_0 := NB203_204.out
     have hns39_2 := NB219_204.out
     have hms39_0 := NB204_203.out
     have hms39_2 := NB204_219.out
     have hs40 : w35.cell? ⟨gb204, 4, none⟩ = some (.slice none 0 0) := (blk_cell BK204.out 4).trans rfl
     have hfs40 := blk_frozen BK204.out 4
     have hns40_0 := NB203_204.out
     have hns40_2 := NB219_204.out
     have hms40_0 := NB204_203.out
     have hms40_2 := NB204_219.out
     refine skip_ (w1 := ?_) (by rfl) rfl ?_ ?_
     rotate_left
     ·go_simp
      rfl
     refine hK.out _ _ ⟨((cell_far (p := ⟨gb204, _, none⟩) NB219_204.out _).trans (((cell_far (p := ⟨gb204, _, none⟩) NB219_204.out _).trans (((cell_far (p := ⟨gb204, _, none⟩) NB219_204.out _).trans (((cell_far (p := ⟨gb204, _, none⟩) NB219_204.out _).trans (((cell_far (p := ⟨gb204, _, none⟩) NB219_204.out _).trans (hHeld.1)))))))))), ((cell_far (p := ⟨gb204, _, none⟩) NB219_204.out _).trans (((cell_far (p := ⟨gb204, _, none⟩) NB219_204.out _).trans (((cell_far (p := ⟨gb204, _, none⟩) NB219_204.out _).trans (((cell_far (p := ⟨gb204, _, none⟩) NB219_204.out _).trans (((cell_far (p := ⟨gb204, _, none⟩) NB219_204.out _).trans (hHeld.2.1)))))))))), ((cell_far (p := ⟨gb204, _, none⟩) NB219_204.out _).trans (((cell_far (p := ⟨gb204, _, none⟩) NB219_204.out _).trans (((cell_far (p := ⟨gb204, _, none⟩) NB219_204.out _).trans (((cell_far (p := ⟨gb204, _, none⟩) NB219_204.out _).trans (((cell_far (p := ⟨gb204, _, none⟩) NB219_204.out _).trans (hHeld.2.2.1)))))))))), ((cell_far (p := ⟨gb204, _, none⟩) NB219_204.out _).trans (((cell_far (p := ⟨gb204, _, none⟩) NB219_204.out _).trans (((cell_far (p := ⟨gb204, _, none⟩) NB219_204.out _).trans (((cell_far (p := ⟨gb204, _, none⟩) NB219_204.out _).trans (((cell_far (p := ⟨gb204, _, none⟩) NB219_204.out _).trans (hHeld.2.2.2.1)))))))))), ((cell_far (p := ⟨gb204, _, none⟩) NB219_204.out _).trans (((cell_far (p := ⟨gb204, _, none⟩) NB219_204.out _).trans (((cell_far (p := ⟨gb204, _, none⟩) NB219_204.out _).trans (((cell_far (p := ⟨gb204, _, none⟩) NB219_204.out _).trans (((cell_far (p := ⟨gb204, _, none⟩) NB219_204.out _).trans (hHeld.2.2.2.2.1)))))))))), ((cell_far (p := ⟨gb204, _, none⟩) NB203_204.out _).trans (((cell_far (p := ⟨gb204, _, none⟩) NB203_204.out _).trans (((cell_far (p := ⟨gb204, _, none⟩) NB203_204.out _).trans (((cell_far (p := ⟨gb204, _, none⟩) NB203_204.out _).trans (((cell_far (p := ⟨gb204, _, none⟩) NB203_204.out _).trans (hHeld.2.2.2.2.2.1)))))))))), ((cell_far (p := ⟨gb204, _, none⟩) NB203_204.out _).trans (((cell_far (p := ⟨gb204, _, none⟩) NB203_204.out _).trans (((cell_far (p := ⟨gb204, _, none⟩) NB203_204.out _).trans (((cell_far (p := ⟨gb204, _, none⟩) NB203_204.out _).trans (((cell_far (p := ⟨gb204, _, none⟩) NB203_204.out _).trans (hHeld.2.2.2.2.2.2.1)))))))))), ((cell_far (p := ⟨gb204, _, none⟩) NB203_204.out _).trans (((cell_far (p := ⟨gb204, _, none⟩) NB203_204.out _).trans (((cell_far (p := ⟨gb204, _, none⟩) NB203_204.out _).trans (((cell_far (p := ⟨gb204, _, none⟩) NB203_204.out _).trans (((cell_far (p := ⟨gb204, _, none⟩) NB203_204.out _).trans (hHeld.2.2.2.2.2.2.2.1)))))))))), ((cell_far (p := ⟨gb204, _, none⟩) NB203_204.out _).trans (((cell_far (p := ⟨gb204, _, none⟩) NB203_204.out _).trans (((cell_far (p := ⟨gb204, _, none⟩) NB203_204.out _).trans (((cell_far (p := ⟨gb204, _, none⟩) NB203_204.out _).trans (((cell_far (p := ⟨gb204, _, none⟩) NB203_204.out _).trans (hHeld.2.2.2.2.2.2.2.2.1)))))))))), ((cell_far (p := ⟨gb204, _, none⟩) NB203_204.out _).trans (((cell_far (p := ⟨gb204, _, none⟩) NB203_204.out _).trans (((cell_far (p := ⟨gb204, _, none⟩) NB203_204.out _).trans (((cell_far (p := ⟨gb204, _, none⟩) NB203_204.out _).trans (((cell_far (p := ⟨gb204, _, none⟩) NB203_204.out _).trans (hHeld.2.2.2.2.2.2.2.2.2))))))))))⟩ (fun hHeld => ?_)
     clear hK K
     refine pure_ (i := 8) (N := some 5) (v := ?_) (a' := ?_) #[T_, T_, T_, T_, T_, T_, F_, T_, T_, F_] rfl rfl (any_of HT_.out (by kernel_rfl)) (fun _ _ _ h => h) (Or.inl ⟨by rfl, ?_⟩) ?_ ?_
     rotate_left
     ·intro w'
      go_simp
      with_reducible rfl
     rotate_left
     ·simp only [Act.put, la_, lz_, ls_, i64_w, i32_w]
      rfl
     refine one_ (i := 6) (N := some 41) #[T_, T_, T_, T_, T_, T_, T_, T_, T_, F_] rfl rfl (one_of HT_.out (by kernel_rfl)) (by decide) (fun K hK => ?_)
     refine Kd.R_lit_step (Kd.int .u8) _ 5 ?hg (N := 41) ?hd (xs := ([] : List Int)) (inner := []) (ok := fun _ => True) (okp := fun _ => True) ?hr ?hp (fun _ hk => hk) trivial (Below.refl _ _) (Nat.le_refl _) (by simp) ?_; (case hd => rfl); (case hg => rfl); (case hr => first | (go_simp; done) | (go_simp; rfl)); (case hp => exact (Reps.none _ _))
     intro v221 w41 ho42 hb hg_ hnew_
     clear hg_ hnew_
     (first | rw [← Ny220.out] at ho42 | (simp only [Int.reduceToNat] at ho42; rw [← Ny220.out] at ho42))
     have n0_ := mk_ (Kd.R_elder' (by (with_reducible repeat (first | apply Kd.R_alloc | apply Kd.R_drewN | apply Kd.R_drew)); exact (Kd.R_mono (Kd.R_far (p := ⟨gb204, 4, none⟩) (Kd.R_far (p := ⟨gb204, 3, none⟩) (Kd.R_far (p := ⟨gb204, 2, none⟩) (Kd.R_far (p := ⟨gb204, 1, none⟩) (Kd.R_far (p := ⟨gb204, 0, none⟩) (Kd.R_types HO213.out BK204.out (by decide)) (fun _ hk => hk.2) (.int .i64 t210)) (fun _ hk => hk.2) (.slice Ao31 t211.length co31)) (fun _ hk => hk.2) (.int .i64 t214)) (fun _ hk => hk.2) (.int .i64 t215)) (fun _ hk => hk.2) (.slice Ao32 t216.length co32)) (fun _ h_ => by first | exact h_.1 | simp only [h_, ne_eq, not_false_eq_true, and_self]))) (Kd.R_base ho42) hb)
     have n1_ := mk_ (Kd.R_below (by (with_reducible repeat (first | apply Kd.R_alloc | apply Kd.R_drewN | apply Kd.R_drew)); exact (Kd.R_mono (Kd.R_far (p := ⟨gb204, 4, none⟩) (Kd.R_far (p := ⟨gb204, 3, none⟩) (Kd.R_far (p := ⟨gb204, 2, none⟩) (Kd.R_far (p := ⟨gb204, 1, none⟩) (Kd.R_far (p := ⟨gb204, 0, none⟩) (Kd.R_types HO218.out BK204.out (by decide)) (fun _ hk => hk.2) (.int .i64 t210)) (fun _ hk => hk.2) (.slice Ao31 t211.length co31)) (fun _ hk => hk.2) (.int .i64 t214)) (fun _ hk => hk.2) (.int .i64 t215)) (fun _ hk => hk.2) (.slice Ao32 t216.length co32)) (fun _ h_ => by first | exact h_.1 | simp only [h_, ne_eq, not_false_eq_true, and_self]))) hb)
     have n2_ := mk_ (Kd.R_lower (Kd.R_new' ho42 (Kd.R_lt (by (with_reducible repeat (first | apply Kd.R_alloc | apply Kd.R_drewN | apply Kd.R_drew)); exact (Kd.R_mono (Kd.R_far (p := ⟨gb204, 4, none⟩) (Kd.R_far (p := ⟨gb204, 3, none⟩) (Kd.R_far (p := ⟨gb204, 2, none⟩) (Kd.R_far (p := ⟨gb204, 1, none⟩) (Kd.R_far (p := ⟨gb204, 0, none⟩) (Kd.R_types HO213.out BK204.out (by decide)) (fun _ hk => hk.2) (.int .i64 t210)) (fun _ hk => hk.2) (.slice Ao31 t211.length co31)) (fun _ hk => hk.2) (.int .i64 t214)) (fun _ hk => hk.2) (.int .i64 t215)) (fun _ hk => hk.2) (.slice Ao32 t216.length co32)) (fun _ h_ => by first | exact h_.1 | simp only [h_, ne_eq, not_false_eq_true, and_self]))))) (below_size (us_ HB.out)))
     have n3_ := mk_ (blk_below (g := gb203) (o := .cells #[.int .i64 a0_0, .slice A0_1 l0_1.length c0_1, .int .i64 a0_2, .int .i64 a0_3, .slice A0_4 l0_4.length c0_4] 51 (0, 0)) (uf_ BK203.out) hb)
     have n4_ := mk_ (blk_below (g := gb204) (o := .cells #[.int .i64 t210, .slice Ao31 t211.length co31, .int .i64 t214, .int .i64 t215, .slice Ao32 t216.length co32] 51 (0, 0)) (by (with_reducible repeat (first | refine bn_ ?_ _ | refine bw_ ?_ | refine ba_ ?_ _)); refine blk_put (cs := #[.int .i64 t210, .slice Ao31 t211.length co31, .int .i64 t214, .int .i64 t215, .slice none 0 0]) ?_ 4 _ rfl; (with_reducible repeat (first | refine bn_ ?_ _ | refine bw_ ?_ | refine ba_ ?_ _)); refine blk_put (cs := #[.int .i64 t210, .slice Ao31 t211.length co31, .int .i64 t214, .int .i64 0, .slice none 0 0]) ?_ 3 _ rfl; (with_reducible repeat (first | refine bn_ ?_ _ | refine bw_ ?_ | refine ba_ ?_ _)); refine blk_put (cs := #[.int .i64 t210, .slice Ao31 t211.length co31, .int .i64 0, .int .i64 0, .slice none 0 0]) ?_ 2 _ rfl; (with_reducible repeat (first | refine bn_ ?_ _ | refine bw_ ?_ | refine ba_ ?_ _)); refine blk_put (cs := #[.int .i64 t210, .slice none 0 0, .int .i64 0, .int .i64 0, .slice none 0 0]) ?_ 1 _ rfl; (with_reducible repeat (first | refine bn_ ?_ _ | refine bw_ ?_ | refine ba_ ?_ _)); refine blk_put (cs := #[.int .i64 0, .slice none 0 0, .int .i64 0, .int .i64 0, .slice none 0 0]) ?_ 0 _ rfl; (with_reducible repeat (first | refine bn_ ?_ _ | refine bw_ ?_ | refine ba_ ?_ _)); exact BK204.out) hb)
     have n5_ := mk_ (blk_below (g := gb219) (o := .cells #[.int .i64 t210, .slice Ao31 t211.length co31, .int .i64 t214, .int .i64 t215, .slice Ao32 t216.length co32] 51 (0, 0)) (uf_ BK219.out) hb)
     have n6_ := mk_ (below_step (us_ HB.out) hb)
     clear HO213
     clear HO218
     clear BK203
     clear BK204
     clear BK219
     clear HB
     have HO213 := n0_
     have HO218 := n1_
     have HO222 := n2_
     have BK203 := n3_
     have BK204 := n4_
     have BK219 := n5_
     have HB := n6_
     clear n0_ n1_ n2_ n3_ n4_ n5_ n6_
     clear hb ho42
     refine hK.out _ _ ⟨(blk_cell BK219.out 0).trans rfl, (blk_cell BK219.out 1).trans rfl, (blk_cell BK219.out 2).trans rfl, (blk_cell BK219.out 3).trans rfl, (blk_cell BK219.out 4).trans rfl, (blk_cell BK203.out 0).trans rfl, (blk_cell BK203.out 1).trans rfl, (blk_cell BK203.out 2).trans rfl, (blk_cell BK203.out 3).trans rfl, (blk_cell BK203.out 4).trans rfl⟩ (fun hHeld => ?_)
     clear hK K
     refine norm_ (a' := ?_) ?_ ?_
     rotate_left
     ·show Act.put _ (some 41) _ = _
      simp only [Act.put, la_, lz_, ls_, i64_w, i32_w]
      rfl
     exact norm_ (by simp only [putAll, Act.put, la_, lz_, ls_]) (hCont (v221) _ ⟨hHeld, (by (with_reducible repeat (first | apply Kd.R_alloc | apply Kd.R_drewN | apply Kd.R_drew)); exact Kd.R_mono HO213.out (fun _ hk => hk.2)), (Kd.ur_ HO218.out), (by (with_reducible repeat (first | apply Kd.R_alloc | apply Kd.R_drewN | apply Kd.R_drew)); exact Kd.R_mono HO222.out (fun _ hk => hk.2)), (u_ BK203.out), (u_ BK204.out), (u_ BK219.out), (us_ HB.out)⟩)
    rintro v221 w43 ⟨hS_, h0_, h1_, h2_, h3_, h4_, h5_, h6_⟩
    have n0_ : Aside0 (Kd.R (Kd.int .u8) 5 w43 w.heap.size (fun k_ => some k_ ≠ (v221 : Value).ownBlock) (.slice Ao31 t211.length co31) t211) := ⟨h0_⟩
    have n1_ : Aside0 (Kd.R k72 72 w43 w.heap.size (fun _ => True) (.slice Ao32 t216.length co32) t216) := ⟨h1_⟩
    have n2_ : Aside0 (Kd.R (Kd.int .u8) 5 w43 w.heap.size (fun k_ => some k_ ≠ (.slice Ao31 t211.length co31 : Value).ownBlock) v221 y220) := ⟨h2_⟩
    have n3_ : Aside0 (w43.heap[gb203]? = some (.cells #[.int .i64 a0_0, .slice A0_1 l0_1.length c0_1, .int .i64 a0_2, .int .i64 a0_3, .slice A0_4 l0_4.length c0_4] 51 (0, 0))) := ⟨h3_⟩
    have n4_ : Aside0 (w43.heap[gb204]? = some (.cells #[.int .i64 t210, .slice Ao31 t211.length co31, .int .i64 t214, .int .i64 t215, .slice Ao32 t216.length co32] 51 (0, 0))) := ⟨h4_⟩
    have n5_ : Aside0 (w43.heap[gb219]? = some (.cells #[.int .i64 t210, .slice Ao31 t211.length co31, .int .i64 t214, .int .i64 t215, .slice Ao32 t216.length co32] 51 (0, 0))) := ⟨h5_⟩
    have n6_ : Aside0 (Below w.heap.size w w43) := ⟨h6_⟩
    clear HO213
    clear HO218
    clear BK203
    clear BK204
    clear BK219
    clear HB
    clear h0_ h1_ h2_ h3_ h4_ h5_ h6_
    have HO213 := n0_
    have HO218 := n1_
    have HO222 := n2_
    have BK203 := n3_
    have BK204 := n4_
    have BK219 := n5_
    have HB := n6_
    clear n0_ n1_ n2_ n3_ n4_ n5_ n6_
    have hHeld : w43.cell? ⟨gb219, 0, none⟩ = some (.int .i64 t210) ∧ w43.cell? ⟨gb219, 1, none⟩ = some (.slice Ao31 t211.length co31) ∧ w43.cell? ⟨gb219, 2, none⟩ = some (.int .i64 t214) ∧ w43.cell? ⟨gb219, 3, none⟩ = some (.int .i64 t215) ∧ w43.cell? ⟨gb219, 4, none⟩ = some (.slice Ao32 t216.length co32) ∧ w43.cell? ⟨gb203, 0, none⟩ = some (.int .i64 a0_0) ∧ w43.cell? ⟨gb203, 1, none⟩ = some (.slice A0_1 l0_1.length c0_1) ∧ w43.cell? ⟨gb203, 2, none⟩ = some (.int .i64 a0_2) ∧ w43.cell? ⟨gb203, 3, none⟩ = some (.int .i64 a0_3) ∧ w43.cell? ⟨gb203, 4, none⟩ = some (.slice A0_4 l0_4.length c0_4) := hS_
    refine norm_ (a' := ?_) ?_ ?_
    rotate_left
    ·simp only [putAll, Act.put, la_, lz_, ls_]
     rfl
    refine pure_ (i := 9) (N := some 6) (v := ?_) (a' := ?_) #[T_, T_, T_, T_, T_, T_, T_, T_, T_, T_] rfl rfl (any_of HT_.out (by kernel_rfl)) (fun _ _ _ h => h) (Or.inl ⟨by rfl, ?_⟩) ?_ ?_
    rotate_left
    ·intro w'
     go_simp
     with_reducible rfl
    rotate_left
    ·simp only [Act.put, la_, lz_, ls_, i64_w, i32_w]
     rfl
    refine done_ (done_of HT_.out (by kernel_rfl)) ?_
    try go_wp2
    refine bodyPost_ret (results_ctt rfl _ _ gb204 51 #[.int .i64 t210, .slice Ao31 t211.length co31, .int .i64 t214, .int .i64 t215, .slice Ao32 t216.length co32] (0, 0) _ rfl (u_ BK204.out) Try.underlying51 rfl (by kernel_rfl)) rfl ?_
    exact ⟨_, _, _, by first | rfl | (simp [errW_none, errW_some] <;> rfl) | (simp only [← hji21, ← hji22]; first | rfl | (simp [errW_none, errW_some] <;> rfl)) | (simp [*, errW_none, errW_some] <;> rfl), by (with_reducible repeat (first | apply Kd.R_alloc | apply Kd.R_drewN | apply Kd.R_drew)); exact HO213.out, by (with_reducible repeat (first | apply Kd.R_alloc | apply Kd.R_drewN | apply Kd.R_drew)); exact HO218.out, by (with_reducible repeat (first | apply Kd.R_alloc | apply Kd.R_drewN | apply Kd.R_drew)); exact HO222.out, us_ HB.out⟩
   rw [if_neg c23] at H
   have c23b0 : decide ((ji22) ≤ a0_2) = false := decide_eq_false c23
   clear c23
   obtain ⟨y223, hy223⟩ : ∃ y_ : List Int, y_ = (([] : List Int)) := ⟨_, rfl⟩
   replace H : (if 0 ≤ a0_2 then (if a0_2 ≤ (ji22) then (if (ji22) ≤ (l0_1.length : Int) then (if y223.length + ((l0_1.take ((ji22) : Int).toNat).drop (a0_2 : Int).toNat).length < 140737488355328 then (some (t210, t211, ji22, t215, t216, wrap64 (a0_0 + a0_2), (y223 ++ ((l0_1.take ((ji22) : Int).toNat).drop (a0_2 : Int).toNat)))) else (none)) else (none)) else (none)) else (none)) = some (r1, r2, r3, r4, r5, r6, r7) := by first | (rw [hy223]; with_reducible exact H) | (have H2_ := (Option.bind_some _ _).symm.trans H; rw [hy223]; with_reducible exact H2_) | (have H2_ := (Option.bind_some _ _).symm.trans H; with_reducible exact H2_) | with_reducible exact H | (rw [hy223]; exact H) | exact H
   have Ny223 := mk_ hy223
   clear hy223
   by_cases c44 : 0 ≤ a0_2
   rotate_left
   ·rw [if_neg c44] at H
    exact absurd H (by simp)
   rw [if_pos c44] at H
   have c44b0 := eq_true c44
   have c44b1 : decide (0 ≤ a0_2) = true := decide_eq_true c44
   clear c44
   by_cases c45 : a0_2 ≤ (ji22)
   rotate_left
   ·rw [if_neg c45] at H
    exact absurd H (by simp)
   rw [if_pos c45] at H
   have c45b0 := eq_true c45
   have c45b1 : decide (a0_2 ≤ (ji22)) = true := decide_eq_true c45
   clear c45
   by_cases c46 : (ji22) ≤ (l0_1.length : Int)
   rotate_left
   ·rw [if_neg c46] at H
    exact absurd H (by simp)
   rw [if_pos c46] at H
   have c46b0 := eq_true c46
   have c46b1 : decide ((ji22) ≤ (l0_1.length : Int)) = true := decide_eq_true c46
   clear c46
   by_cases c47 : y223.length + ((l0_1.take ((ji22) : Int).toNat).drop (a0_2 : Int).toNat).length < 140737488355328
   rotate_left
   ·rw [if_neg c47] at H
    exact absurd H (by simp)
   rw [if_pos c47] at H
   have LMc47 := mk_ c47
   clear c47
   obtain ⟨y227, hy227⟩ : ∃ y_ : List Int, y_ = (y223 ++ ((l0_1.take ((ji22) : Int).toNat).drop (a0_2 : Int).toNat)) := ⟨_, rfl⟩
   replace H : (some (t210, t211, ji22, t215, t216, wrap64 (a0_0 + a0_2), y227)) = some (r1, r2, r3, r4, r5, r6, r7) := by first | (rw [hy227]; with_reducible exact H) | (have H2_ := (Option.bind_some _ _).symm.trans H; rw [hy227]; with_reducible exact H2_) | (have H2_ := (Option.bind_some _ _).symm.trans H; with_reducible exact H2_) | with_reducible exact H | (rw [hy227]; exact H) | exact H
   have Ny227 := mk_ hy227
   clear hy227
   simp only [Option.some.injEq, Prod.mk.injEq] at H
   obtain ⟨rfl, rfl, rfl, rfl, rfl, rfl, rfl⟩ := H
   have hnb48 := NB203_204.out
   have hnc48 := NB204_203.out
   obtain ⟨hcz49_0, hcz49_1, hcz49_2, hcz49_3, hcz49_4, hfz49_0, hfz49_1, hfz49_2, hfz49_3, hfz49_4⟩ := cells5_ BK203.out
   try go_wp2_with (first | ((with_reducible refine gate_callee (f := 82) rfl ?_); refine goesL_ (some 20) rfl rfl Try.func82 (by kernel_rfl) rfl #[.agg #[.int .i64 a0_0, .slice A0_1 l0_1.length c0_1, .int .i64 a0_2, .int .i64 a0_3, .slice A0_4 l0_4.length c0_4]] rfl (by (try simp only [lm_, lo_, ln_]); first | done | rfl | (simp only [List.length_drop, List.length_take]; rfl)) ?_; (with_reducible refine (spec_l13Copy.calls a0_0 _ _ l0_1 a0_2 a0_3 _ _ l0_4 t210 t211 t214 t215 t216 _ ?side1 ?side2 ?side3 ?side4 A20.out).mono ?_); (case side1 => repeat (first | exact (Kd.C_below HR0_1.out HB.out) | (with_reducible refine Kd.C_alloc ?_ _) | (with_reducible refine Kd.C_drewN ?_ _) | (with_reducible refine Kd.C_drew ?_))); (case side2 => exact HC0_1.out); (case side3 => repeat (first | exact (Kd.C_below HR0_4.out HB.out) | (with_reducible refine Kd.C_alloc ?_ _) | (with_reducible refine Kd.C_drewN ?_ _) | (with_reducible refine Kd.C_drew ?_))); (case side4 => exact HC0_4.out); rintro e w50 ⟨v212, v217, rfl, ho0, ho1, hb⟩; refine ⟨_, rfl, ?_⟩; have n0_ := mk_ (Kd.R_lower ho0 (below_size (us_ HB.out))); have n1_ := mk_ (Kd.R_lower ho1 (below_size (us_ HB.out))); have n2_ := mk_ (blk_below (u_ BK203.out) hb); have n3_ := mk_ (blk_below (u_ BK204.out) hb); have n4_ := mk_ (below_step (us_ HB.out) hb); clear BK203; clear BK204; clear HB; have HO213 := n0_; have HO218 := n1_; have BK203 := n2_; have BK204 := n3_; have HB := n4_; clear n0_ n1_ n2_ n3_ n4_; (try clear hb); (try clear hb2); (try clear hk); (try clear hi); (try clear ho0); (try clear ho1)) | ((with_reducible refine gate_dst (N := 7) rfl ?_); refine box_event ?hg (N := 7) ?hd (cs := #[.int .i64 0, .slice none 0 0, .int .i64 0, .int .i64 0, .slice none 0 0]) (t := 51) ?hr ?_; (case hd => rfl); (case hg => rfl); (case hr => first | (go_simp; done) | (go_simp; rfl)); intro gb219 hg w51 hbox hb; have n0_ := mk_ (Kd.R_below (Kd.ur_ HO213.out) hb); have n1_ := mk_ (Kd.R_below (Kd.ur_ HO218.out) hb); have n2_ := mk_ (blk_below (u_ BK203.out) hb); have n3_ := mk_ (blk_below (u_ BK204.out) hb); have n4_ := mk_ (below_step (us_ HB.out) hb); have n5_ := mk_ (hbox); have n6_ := mk_ ((by rw [hg]; exact (below_size (us_ HB.out)) : w.heap.size ≤ gb219)); have n7_ := mk_ ((by rw [hg]; exact (below_size (us_ HB.out)) : w.heap.size ≤ gb219)); have n8_ := mk_ ((by rw [hg]; exact Nat.ne_of_lt (blk_lt (u_ BK203.out)) : gb203 ≠ gb219)); have n9_ := mk_ ((by rw [hg]; exact Nat.ne_of_gt (blk_lt (u_ BK203.out)) : gb219 ≠ gb203)); have n10_ := mk_ ((by rw [hg]; exact Nat.ne_of_lt (blk_lt (u_ BK204.out)) : gb204 ≠ gb219)); have n11_ := mk_ ((by rw [hg]; exact Nat.ne_of_gt (blk_lt (u_ BK204.out)) : gb219 ≠ gb204)); clear HO213; clear HO218; clear BK203; clear BK204; clear HB; have HO213 := n0_; have HO218 := n1_; have BK203 := n2_; have BK204 := n3_; have HB := n4_; have BK219 := n5_; have GW219 := n6_; have GE219 := ge_ n7_.out; have NB203_219 := nq_ n8_.out; have NB219_203 := nq_ n9_.out; have NB204_219 := nq_ n10_.out; have NB219_204 := nq_ n11_.out; clear n0_ n1_ n2_ n3_ n4_ n5_ n6_ n7_ n8_ n9_ n10_ n11_; clear hb hbox hg; have hnb52 := NB219_203.out; have hnc52 := NB203_219.out; have hnb53 := NB219_204.out; have hnc53 := NB204_219.out; obtain ⟨hcz54_0, hcz54_1, hcz54_2, hcz54_3, hcz54_4, hfz54_0, hfz54_1, hfz54_2, hfz54_3, hfz54_4⟩ := cells5_ BK219.out; obtain ⟨Ao55, co55, eo55⟩ := Kd.R_slice HO213.out; subst eo55; obtain ⟨Ao56, co56, eo56⟩ := Kd.R_slice HO218.out; subst eo56; obtain ⟨hcz57_0, hcz57_1, hcz57_2, hcz57_3, hcz57_4, hfz57_0, hfz57_1, hfz57_2, hfz57_3, hfz57_4⟩ := cells5_ BK203.out))
   have n0_ : Aside0 (Kd.R (Kd.int .u8) 5 ((((((w51.setCell ⟨gb219, 0, none⟩ (.int .i64 t210)).setCell ⟨gb219, 1, none⟩ (.slice Ao55 t211.length co55)).setCell ⟨gb219, 2, none⟩ (.int .i64 t214)).setCell ⟨gb219, 3, none⟩ (.int .i64 t215)).setCell ⟨gb219, 4, none⟩ (.slice Ao56 t216.length co56)).setCell ⟨gb219, 2, none⟩ (.int .i64 ji22)) w.heap.size (fun _ => True) (.slice Ao55 t211.length co55) t211) := ⟨by (with_reducible repeat (first | apply Kd.R_alloc | apply Kd.R_drewN | apply Kd.R_drew)); exact Kd.R_mono (Kd.R_far (p := ⟨gb219, 2, none⟩) (Kd.R_far (p := ⟨gb219, 4, none⟩) (Kd.R_far (p := ⟨gb219, 3, none⟩) (Kd.R_far (p := ⟨gb219, 2, none⟩) (Kd.R_far (p := ⟨gb219, 1, none⟩) (Kd.R_far (p := ⟨gb219, 0, none⟩) (Kd.R_types HO213.out BK219.out (by decide)) (fun _ hk => hk.2) (.int .i64 t210)) (fun _ hk => hk.2) (.slice Ao55 t211.length co55)) (fun _ hk => hk.2) (.int .i64 t214)) (fun _ hk => hk.2) (.int .i64 t215)) (fun _ hk => hk.2) (.slice Ao56 t216.length co56)) (fun _ hk => hk.2) (.int .i64 ji22)) (fun _ hk => trivial)⟩
   have n1_ : Aside0 (Kd.R k72 72 ((((((w51.setCell ⟨gb219, 0, none⟩ (.int .i64 t210)).setCell ⟨gb219, 1, none⟩ (.slice Ao55 t211.length co55)).setCell ⟨gb219, 2, none⟩ (.int .i64 t214)).setCell ⟨gb219, 3, none⟩ (.int .i64 t215)).setCell ⟨gb219, 4, none⟩ (.slice Ao56 t216.length co56)).setCell ⟨gb219, 2, none⟩ (.int .i64 ji22)) w.heap.size (fun _ => True) (.slice Ao56 t216.length co56) t216) := ⟨by (with_reducible repeat (first | apply Kd.R_alloc | apply Kd.R_drewN | apply Kd.R_drew)); exact Kd.R_mono (Kd.R_far (p := ⟨gb219, 2, none⟩) (Kd.R_far (p := ⟨gb219, 4, none⟩) (Kd.R_far (p := ⟨gb219, 3, none⟩) (Kd.R_far (p := ⟨gb219, 2, none⟩) (Kd.R_far (p := ⟨gb219, 1, none⟩) (Kd.R_far (p := ⟨gb219, 0, none⟩) (Kd.R_types HO218.out BK219.out (by decide)) (fun _ hk => hk.2) (.int .i64 t210)) (fun _ hk => hk.2) (.slice Ao55 t211.length co55)) (fun _ hk => hk.2) (.int .i64 t214)) (fun _ hk => hk.2) (.int .i64 t215)) (fun _ hk => hk.2) (.slice Ao56 t216.length co56)) (fun _ hk => hk.2) (.int .i64 ji22)) (fun _ hk => trivial)⟩
   have n2_ : Aside0 (((((((w51.setCell ⟨gb219, 0, none⟩ (.int .i64 t210)).setCell ⟨gb219, 1, none⟩ (.slice Ao55 t211.length co55)).setCell ⟨gb219, 2, none⟩ (.int .i64 t214)).setCell ⟨gb219, 3, none⟩ (.int .i64 t215)).setCell ⟨gb219, 4, none⟩ (.slice Ao56 t216.length co56)).setCell ⟨gb219, 2, none⟩ (.int .i64 ji22)).heap[gb203]? = some (.cells #[.int .i64 a0_0, .slice A0_1 l0_1.length c0_1, .int .i64 a0_2, .int .i64 a0_3, .slice A0_4 l0_4.length c0_4] 51 (0, 0))) := ⟨uf_ BK203.out⟩
   have n3_ : Aside0 (((((((w51.setCell ⟨gb219, 0, none⟩ (.int .i64 t210)).setCell ⟨gb219, 1, none⟩ (.slice Ao55 t211.length co55)).setCell ⟨gb219, 2, none⟩ (.int .i64 t214)).setCell ⟨gb219, 3, none⟩ (.int .i64 t215)).setCell ⟨gb219, 4, none⟩ (.slice Ao56 t216.length co56)).setCell ⟨gb219, 2, none⟩ (.int .i64 ji22)).heap[gb204]? = some (.cells #[.int .i64 0, .slice none 0 0, .int .i64 0, .int .i64 0, .slice none 0 0] 51 (0, 0))) := ⟨uf_ BK204.out⟩
   have n4_ : Aside0 (((((((w51.setCell ⟨gb219, 0, none⟩ (.int .i64 t210)).setCell ⟨gb219, 1, none⟩ (.slice Ao55 t211.length co55)).setCell ⟨gb219, 2, none⟩ (.int .i64 t214)).setCell ⟨gb219, 3, none⟩ (.int .i64 t215)).setCell ⟨gb219, 4, none⟩ (.slice Ao56 t216.length co56)).setCell ⟨gb219, 2, none⟩ (.int .i64 ji22)).heap[gb219]? = some (.cells #[.int .i64 t210, .slice Ao55 t211.length co55, .int .i64 ji22, .int .i64 t215, .slice Ao56 t216.length co56] 51 (0, 0))) := ⟨by (with_reducible repeat (first | refine bn_ ?_ _ | refine bw_ ?_ | refine ba_ ?_ _)); refine blk_put (cs := #[.int .i64 t210, .slice Ao55 t211.length co55, .int .i64 t214, .int .i64 t215, .slice Ao56 t216.length co56]) ?_ 2 _ rfl; (with_reducible repeat (first | refine bn_ ?_ _ | refine bw_ ?_ | refine ba_ ?_ _)); refine blk_put (cs := #[.int .i64 t210, .slice Ao55 t211.length co55, .int .i64 t214, .int .i64 t215, .slice none 0 0]) ?_ 4 _ rfl; (with_reducible repeat (first | refine bn_ ?_ _ | refine bw_ ?_ | refine ba_ ?_ _)); refine blk_put (cs := #[.int .i64 t210, .slice Ao55 t211.length co55, .int .i64 t214, .int .i64 0, .slice none 0 0]) ?_ 3 _ rfl; (with_reducible repeat (first | refine bn_ ?_ _ | refine bw_ ?_ | refine ba_ ?_ _)); refine blk_put (cs := #[.int .i64 t210, .slice Ao55 t211.length co55, .int .i64 0, .int .i64 0, .slice none 0 0]) ?_ 2 _ rfl; (with_reducible repeat (first | refine bn_ ?_ _ | refine bw_ ?_ | refine ba_ ?_ _)); refine blk_put (cs := #[.int .i64 t210, .slice none 0 0, .int .i64 0, .int .i64 0, .slice none 0 0]) ?_ 1 _ rfl; (with_reducible repeat (first | refine bn_ ?_ _ | refine bw_ ?_ | refine ba_ ?_ _)); refine blk_put (cs := #[.int .i64 0, .slice none 0 0, .int .i64 0, .int .i64 0, .slice none 0 0]) ?_ 0 _ rfl; (with_reducible repeat (first | refine bn_ ?_ _ | refine bw_ ?_ | refine ba_ ?_ _)); exact BK219.out⟩
   have n5_ : Aside0 (Below w.heap.size w ((((((w51.setCell ⟨gb219, 0, none⟩ (.int .i64 t210)).setCell ⟨gb219, 1, none⟩ (.slice Ao55 t211.length co55)).setCell ⟨gb219, 2, none⟩ (.int .i64 t214)).setCell ⟨gb219, 3, none⟩ (.int .i64 t215)).setCell ⟨gb219, 4, none⟩ (.slice Ao56 t216.length co56)).setCell ⟨gb219, 2, none⟩ (.int .i64 ji22))) := ⟨us_ HB.out⟩
   (try clear HO213)
   (try clear HO218)
   (try clear BK203)
   (try clear BK204)
   (try clear BK219)
   (try clear HB)
   generalize ((((((w51.setCell ⟨gb219, 0, none⟩ (.int .i64 t210)).setCell ⟨gb219, 1, none⟩ (.slice Ao55 t211.length co55)).setCell ⟨gb219, 2, none⟩ (.int .i64 t214)).setCell ⟨gb219, 3, none⟩ (.int .i64 t215)).setCell ⟨gb219, 4, none⟩ (.slice Ao56 t216.length co56)).setCell ⟨gb219, 2, none⟩ (.int .i64 ji22)) = w58 at n0_ n1_ n2_ n3_ n4_ n5_ ⊢
   have HO213 := n0_
   have HO218 := n1_
   have BK203 := n2_
   have BK204 := n3_
   have BK219 := n4_
   have HB := n5_
   clear n0_ n1_ n2_ n3_ n4_ n5_
   have n0_ := mk_ (Kd.R_drew HO213.out)
   have n1_ := mk_ (Kd.R_drew HO218.out)
   have n2_ := mk_ (blk_drew BK203.out)
   have n3_ := mk_ (blk_drew BK204.out)
   have n4_ := mk_ (blk_drew BK219.out)
   have n5_ := mk_ (below_drew1 HB.out)
   clear HO213
   clear HO218
   clear BK203
   clear BK204
   clear BK219
   clear HB
   have HO213 := n0_
   have HO218 := n1_
   have BK203 := n2_
   have BK204 := n3_
   have BK219 := n4_
   have HB := n5_
   clear n0_ n1_ n2_ n3_ n4_ n5_
   obtain ⟨i060, hi060, _, hsz60, _⟩ := info_parts info5
   obtain ⟨A60, hcut60, hA60, hC60⟩ := print_mid_of (P := Try.prog) (Value.int .u8) 0 22 5 .i64 .i64 Try.underlying22 hi060 hsz60 A0_1 c0_1 l0_1 a0_2 (ji22) (of_decide_eq_true (by first | (with_reducible assumption) | assumption)) (by first | omega | exact of_decide_eq_true (by first | (with_reducible assumption) | assumption)) (of_decide_eq_true (by first | (with_reducible assumption) | assumption)) HC0_1.out
   have HR226 := mk_ (Kd.C_of_reads (h1 := fun _ => rfl) (hA60 _ (Kd.reads_of_C HR0_1.out)))
   have HC226 := mk_ hC60
   clear hA60 hC60 hi060 hsz60
   refine start_ (n := 17) (S := fun w' => w'.cell? ⟨gb219, 0, none⟩ = some (.int .i64 t210) ∧ w'.cell? ⟨gb219, 1, none⟩ = some (.slice Ao55 t211.length co55) ∧ w'.cell? ⟨gb219, 2, none⟩ = some (.int .i64 ji22) ∧ w'.cell? ⟨gb219, 3, none⟩ = some (.int .i64 t215) ∧ w'.cell? ⟨gb219, 4, none⟩ = some (.slice Ao56 t216.length co56) ∧ w'.cell? ⟨gb203, 0, none⟩ = some (.int .i64 a0_0) ∧ w'.cell? ⟨gb203, 1, none⟩ = some (.slice A0_1 l0_1.length c0_1) ∧ w'.cell? ⟨gb203, 2, none⟩ = some (.int .i64 a0_2) ∧ w'.cell? ⟨gb203, 3, none⟩ = some (.int .i64 a0_3) ∧ w'.cell? ⟨gb203, 4, none⟩ = some (.slice A0_4 l0_4.length c0_4)) (ds := []) #[F_, F_, F_, F_, F_, F_, F_, F_, F_, F_, F_, F_, F_, F_, F_, F_, F_] (by kernel_rfl) rfl rfl ⟨(blk_cell BK219.out 0).trans rfl, (blk_cell BK219.out 1).trans rfl, (blk_cell BK219.out 2).trans rfl, (blk_cell BK219.out 3).trans rfl, (blk_cell BK219.out 4).trans rfl, (blk_cell BK203.out 0).trans rfl, (blk_cell BK203.out 1).trans rfl, (blk_cell BK203.out 2).trans rfl, (blk_cell BK203.out 3).trans rfl, (blk_cell BK203.out 4).trans rfl⟩ (fun hHeld => ?_); refine with_tabW spec_MouthNext.tab8 spec_MouthNext.bits8 (fun HT_ HW_ => ?_)
   generalize w58.drew = w59 at HO213 HO218 BK203 BK204 BK219 HB HR226 hHeld ⊢
   refine pure_ (i := 1) (N := some 45) (v := ?_) (a' := ?_) #[F_, T_, F_, F_, F_, F_, F_, F_, F_, F_, F_, F_, F_, F_, F_, F_, F_] rfl rfl (any_of HT_.out (by kernel_rfl)) (fun _ _ _ h => h) (Or.inl ⟨by rfl, ?_⟩) ?_ ?_
   rotate_left
   ·intro w'
    go_simp
    with_reducible rfl
   rotate_left
   ·simp only [Act.put, la_, lz_, ls_, i64_w, i32_w]
    rfl
   refine pure_ (i := 3) (N := some 47) (v := ?_) (a' := ?_) #[F_, T_, F_, T_, F_, F_, F_, F_, F_, F_, F_, F_, F_, F_, F_, F_, F_] rfl rfl (any_of HT_.out (by kernel_rfl)) (fun _ _ _ h => h) (Or.inl ⟨by rfl, ?_⟩) ?_ ?_
   rotate_left
   ·intro w'
    go_simp
    with_reducible rfl
   rotate_left
   ·simp only [Act.put, la_, lz_, ls_, i64_w, i32_w]
    rfl
   refine pure_ (i := 7) (N := some 51) (v := ?_) (a' := ?_) #[F_, T_, F_, T_, F_, F_, F_, T_, F_, F_, F_, F_, F_, F_, F_, F_, F_] rfl rfl (any_of HT_.out (by kernel_rfl)) (fun _ _ _ h => h) (Or.inl ⟨by rfl, ?_⟩) ?_ ?_
   rotate_left
   ·intro w'
    go_simp
    with_reducible rfl
   rotate_left
   ·simp only [Act.put, la_, lz_, ls_, i64_w, i32_w]
    rfl
   refine pure_ (i := 9) (N := some 53) (v := ?_) (a' := ?_) #[F_, T_, F_, T_, F_, F_, F_, T_, F_, T_, F_, F_, F_, F_, F_, F_, F_] rfl rfl (any_of HT_.out (by kernel_rfl)) (fun _ _ _ h => h) (Or.inl ⟨by rfl, ?_⟩) ?_ ?_
   rotate_left
   ·intro w'
    go_simp
    with_reducible rfl
   rotate_left
   ·simp only [Act.put, la_, lz_, ls_, i64_w, i32_w]
    rfl
   refine pure_ (i := 11) (N := some 55) (v := ?_) (a' := ?_) #[F_, T_, F_, T_, F_, F_, F_, T_, F_, T_, F_, T_, F_, F_, F_, F_, F_] rfl rfl (any_of HT_.out (by kernel_rfl)) (fun _ _ _ h => h) (Or.inl ⟨by rfl, ?_⟩) ?_ ?_
   rotate_left
   ·intro w'
    go_simp
    with_reducible rfl
   rotate_left
   ·simp only [Act.put, la_, lz_, ls_, i64_w, i32_w]
    rfl
   refine take_ (i := 0) (N := some 44) (v := ?_) (a' := ?_) #[T_, T_, F_, T_, F_, F_, F_, T_, F_, T_, F_, T_, F_, F_, F_, F_, F_] rfl rfl (take_ofW HT_.out HW_.out (by kernel_rfl)) (fun _ _ _ h => h) (Or.inl ⟨by rfl, ?_⟩) hHeld ?_ ?_
   rotate_left
   ·rintro w' ⟨s0, s1, s2, s3, s4, s5, s6, s7, s8, s9⟩
    go_simp
    with_reducible rfl
   rotate_left
   ·simp only [Act.put, la_, lz_, ls_, i64_w, i32_w]
    rfl
   refine take_ (i := 2) (N := some 46) (v := ?_) (a' := ?_) #[T_, T_, T_, T_, F_, F_, F_, T_, F_, T_, F_, T_, F_, F_, F_, F_, F_] rfl rfl (take_ofW HT_.out HW_.out (by kernel_rfl)) (fun _ _ _ h => h) (Or.inl ⟨by rfl, ?_⟩) hHeld ?_ ?_
   rotate_left
   ·rintro w' ⟨s0, s1, s2, s3, s4, s5, s6, s7, s8, s9⟩
    go_simp
    with_reducible rfl
   rotate_left
   ·simp only [Act.put, la_, lz_, ls_, i64_w, i32_w]
    rfl
   refine take_ (i := 4) (N := some 48) (v := ?_) (a' := ?_) #[T_, T_, T_, T_, T_, F_, F_, T_, F_, T_, F_, T_, F_, F_, F_, F_, F_] rfl rfl (take_ofW HT_.out HW_.out (by kernel_rfl)) (fun _ _ _ h => h) (Or.inl ⟨by rfl, ?_⟩) hHeld ?_ ?_
   rotate_left
   ·rintro w' ⟨s0, s1, s2, s3, s4, s5, s6, s7, s8, s9⟩
    go_simp
    with_reducible rfl
   rotate_left
   ·simp only [Act.put, la_, lz_, ls_, i64_w, i32_w]
    rfl
   refine pure_ (i := 5) (N := some 49) (v := ?_) (a' := ?_) #[T_, T_, T_, T_, T_, T_, F_, T_, F_, T_, F_, T_, F_, F_, F_, F_, F_] rfl rfl (any_of HT_.out (by kernel_rfl)) (fun _ _ _ h => h) (Or.inl ⟨by rfl, ?_⟩) ?_ ?_
   rotate_left
   ·intro w'
    go_simp
    with_reducible rfl
   rotate_left
   ·simp only [Act.put, la_, lz_, ls_, i64_w, i32_w]
    rfl
   refine take_ (i := 8) (N := some 52) (v := ?_) (a' := ?_) #[T_, T_, T_, T_, T_, T_, F_, T_, T_, T_, F_, T_, F_, F_, F_, F_, F_] rfl rfl (take_ofW HT_.out HW_.out (by kernel_rfl)) (fun _ _ _ h => h) (Or.inl ⟨by rfl, ?_⟩) hHeld ?_ ?_
   rotate_left
   ·rintro w' ⟨s0, s1, s2, s3, s4, s5, s6, s7, s8, s9⟩
    go_simp
    with_reducible rfl
   rotate_left
   ·simp only [Act.put, la_, lz_, ls_, i64_w, i32_w]
    rfl
   refine take_ (i := 10) (N := some 54) (v := ?_) (a' := ?_) #[T_, T_, T_, T_, T_, T_, F_, T_, T_, T_, T_, T_, F_, F_, F_, F_, F_] rfl rfl (take_ofW HT_.out HW_.out (by kernel_rfl)) (fun _ _ _ h => h) (Or.inl ⟨by rfl, ?_⟩) hHeld ?_ ?_
   rotate_left
   ·rintro w' ⟨s0, s1, s2, s3, s4, s5, s6, s7, s8, s9⟩
    go_simp
    with_reducible rfl
   rotate_left
   ·simp only [Act.put, la_, lz_, ls_, i64_w, i32_w]
    rfl
   refine pure_ (i := 12) (N := some 56) (v := ?_) (a' := ?_) #[T_, T_, T_, T_, T_, T_, F_, T_, T_, T_, T_, T_, T_, F_, F_, F_, F_] rfl rfl (any_of HT_.out (by kernel_rfl)) (fun _ _ _ h => h) (Or.inl ⟨by rfl, ?_⟩) ?_ ?_
   rotate_left
   ·intro w'
    go_simp
    with_reducible rfl
   rotate_left
   ·simp only [Act.put, la_, lz_, ls_, i64_w, i32_w]
    rfl
   refine one_ (i := 6) (N := some 50) #[T_, T_, T_, T_, T_, T_, T_, T_, T_, T_, T_, T_, T_, F_, F_, F_, F_] rfl rfl (one_of HT_.out (by kernel_rfl)) (by decide) (fun K hK => ?_)
   refine Kd.R_lit_step (Kd.int .u8) _ 5 ?hg (N := 50) ?hd (xs := ([] : List Int)) (inner := []) (ok := fun _ => True) (okp := fun _ => True) ?hr ?hp (fun _ hk => hk) trivial (Below.refl _ _) (Nat.le_refl _) (by simp) ?_; (case hd => rfl); (case hg => rfl); (case hr => first | (go_simp; done) | (go_simp; rfl)); (case hp => exact (Reps.none _ _))
   intro v224 w61 ho62 hb hg_ hnew_
   clear hg_ hnew_
   (first | rw [← Ny223.out] at ho62 | (simp only [Int.reduceToNat] at ho62; rw [← Ny223.out] at ho62))
   have n0_ := mk_ (Kd.R_elder' (Kd.ur_ HO213.out) (Kd.R_base ho62) hb)
   have n1_ := mk_ (Kd.R_below (Kd.ur_ HO218.out) hb)
   have n2_ := mk_ (Kd.R_lower (Kd.R_new' ho62 (Kd.R_lt (Kd.ur_ HO213.out))) (below_size (us_ HB.out)))
   have n3_ := mk_ (blk_below (u_ BK203.out) hb)
   have n4_ := mk_ (blk_below (u_ BK204.out) hb)
   have n5_ := mk_ (blk_below (u_ BK219.out) hb)
   have n6_ := mk_ (below_step (us_ HB.out) hb)
   clear HO213
   clear HO218
   clear BK203
   clear BK204
   clear BK219
   clear HB
   have HO213 := n0_
   have HO218 := n1_
   have HO225 := n2_
   have BK203 := n3_
   have BK204 := n4_
   have BK219 := n5_
   have HB := n6_
   clear n0_ n1_ n2_ n3_ n4_ n5_ n6_
   clear hb ho62
   refine hK.out _ _ ⟨(blk_cell BK219.out 0).trans rfl, (blk_cell BK219.out 1).trans rfl, (blk_cell BK219.out 2).trans rfl, (blk_cell BK219.out 3).trans rfl, (blk_cell BK219.out 4).trans rfl, (blk_cell BK203.out 0).trans rfl, (blk_cell BK203.out 1).trans rfl, (blk_cell BK203.out 2).trans rfl, (blk_cell BK203.out 3).trans rfl, (blk_cell BK203.out 4).trans rfl⟩ (fun hHeld => ?_)
   clear hK K
   refine norm_ (a' := ?_) ?_ ?_
   rotate_left
   ·show Act.put _ (some 50) _ = _
    simp only [Act.put, la_, lz_, ls_, i64_w, i32_w]
    rfl
   refine one_ (i := 13) (N := some 57) #[T_, T_, T_, T_, T_, T_, T_, T_, T_, T_, T_, T_, T_, T_, F_, F_, F_] rfl rfl (one_of HT_.out (by kernel_rfl)) (by decide) (fun K hK => ?_)
   refine Kd.R_append_rows_step (Kd.int .u8) (w0 := w) w.heap.size (by rfl) (.tmp 50) (.tmp 56) 22 5 (.int .u8 0) 1 rfl Try.underlying22 info5 rfl (by decide) (by omega) v224 y223 ((l0_1.take ((ji22) : Int).toNat).drop (a0_2 : Int).toNat) _ _ _ (fun k_ => some k_ ≠ (.slice Ao55 t211.length co55 : Value).ownBlock) (fun _ => False) rfl rfl ?aO ?aR (fun _ _ h => h) (fun _ h => h.elim) ?aF ?aB ?aS ?aL ?_
   (case aR => first | (have e_ := (Kd.C_below HR226.out HB.out); rw [show ((l0_1.take ((ji22) : Int).toNat).drop (a0_2 : Int).toNat).length = ((ji22).toNat - a0_2.toNat) from (by rw [List.length_drop, List.length_take]; have h_ : ((ji22) : Int) ≤ (l0_1.length : Int) := of_decide_eq_true (by first | (with_reducible assumption) | assumption); omega)] at e_; exact e_) | (rw [← show ((l0_1.take ((ji22) : Int).toNat).drop (a0_2 : Int).toNat).length = ((ji22).toNat - a0_2.toNat) from (by rw [List.length_drop, List.length_take]; have h_ : ((ji22) : Int) ≤ (l0_1.length : Int) := of_decide_eq_true (by first | (with_reducible assumption) | assumption); omega)]; repeat (first | exact (Kd.C_below HR226.out HB.out) | (with_reducible refine Kd.C_alloc ?_ _) | (with_reducible refine Kd.C_drewN ?_ _) | (with_reducible refine Kd.C_drew ?_))) | (repeat (first | exact (Kd.C_below HR226.out HB.out) | (with_reducible refine Kd.C_alloc ?_ _) | (with_reducible refine Kd.C_drewN ?_ _) | (with_reducible refine Kd.C_drew ?_))))
   (case aB => exact (us_ HB.out))
   (case aF => exact (fun k_ hk => Kd.fresh' (Kd.R_lt (Kd.ur_ HO213.out)) k_ hk))
   (case aO => exact (by (with_reducible repeat (first | apply Kd.R_alloc | apply Kd.R_drewN | apply Kd.R_drew)); exact Kd.R_mono HO225.out (fun _ hk => hk.2)))
   (case aS => exact (below_size (us_ HB.out)))
   (case aL => have := LMc47.out; have hlx_ := (show ((l0_1.take ((ji22) : Int).toNat).drop (a0_2 : Int).toNat).length = ((ji22).toNat - a0_2.toNat) from (by rw [List.length_drop, List.length_take]; have h_ : ((ji22) : Int) ≤ (l0_1.length : Int) := of_decide_eq_true (by first | (with_reducible assumption) | assumption); omega)); omega)
   intro v228 w63 ho hb hg hat
   rw [← Ny227.out] at ho
   have n0_ := mk_ (blk_grown (g := gb203) (o := .cells #[.int .i64 a0_0, .slice A0_1 l0_1.length c0_1, .int .i64 a0_2, .int .i64 a0_3, .slice A0_4 l0_4.length c0_4] 51 (0, 0)) (u_ BK203.out) hg (Kd.R_ne HO225.out BK203.out (by decide)))
   have n1_ := mk_ (blk_grown (g := gb204) (o := .cells #[.int .i64 0, .slice none 0 0, .int .i64 0, .int .i64 0, .slice none 0 0] 51 (0, 0)) (u_ BK204.out) hg (Kd.R_ne HO225.out BK204.out (by decide)))
   have n2_ := mk_ (Kd.R_after (ok := (fun _ => True)) (Kd.ur_ HO213.out) hg hat)
   have n3_ := mk_ (Kd.R_over' (Kd.ur_ HO218.out) (Kd.R_typed (Kd.ur_ HO225.out)) (by decide) hg)
   have n4_ := mk_ (blk_grown (g := gb219) (o := .cells #[.int .i64 t210, .slice Ao55 t211.length co55, .int .i64 ji22, .int .i64 t215, .slice Ao56 t216.length co56] 51 (0, 0)) (u_ BK219.out) hg (Kd.R_ne HO225.out BK219.out (by decide)))
   have n5_ := mk_ (hb)
   have n6_ := mk_ (ho)
   clear BK203
   clear BK204
   clear HO213
   clear HO218
   clear BK219
   clear HB
   clear HO225
   have BK203 := n0_
   have BK204 := n1_
   have HO213 := n2_
   have HO218 := n3_
   have BK219 := n4_
   have HB := n5_
   have HO229 := n6_
   clear n0_ n1_ n2_ n3_ n4_ n5_ n6_
   clear ho hb hg hat
   refine hK.out _ _ ⟨(blk_cell BK219.out 0).trans rfl, (blk_cell BK219.out 1).trans rfl, (blk_cell BK219.out 2).trans rfl, (blk_cell BK219.out 3).trans rfl, (blk_cell BK219.out 4).trans rfl, (blk_cell BK203.out 0).trans rfl, (blk_cell BK203.out 1).trans rfl, (blk_cell BK203.out 2).trans rfl, (blk_cell BK203.out 3).trans rfl, (blk_cell BK203.out 4).trans rfl⟩ (fun hHeld => ?_)
   clear hK K
   refine norm_ (a' := ?_) ?_ ?_
   rotate_left
   ·show Act.put _ (some 57) _ = _
    simp only [Act.put, la_, lz_, ls_, i64_w, i32_w]
    rfl
   refine one_ (i := 14) (N := none) #[T_, T_, T_, T_, T_, T_, T_, T_, T_, T_, T_, T_, T_, T_, T_, F_, F_] rfl rfl (one_of HT_.out (by kernel_rfl)) (by decide) (fun K hK => ?_)
   have hs64 : w63.cell? ⟨gb204, 0, none⟩ = some (.int .i64 0) := (blk_cell BK204.out 0).trans rfl
   have hfs64 := blk_frozen BK204.out 0
   have hns64_0 := NB203_204.out
   have hns64_2 := NB219_204.out
   have hms64_0 := NB204_203.out
   have hms64_2 := NB204_219.out
   have hs65 : w63.cell? ⟨gb204, 1, none⟩ = some (.slice none 0 0) := (blk_cell BK204.out 1).trans rfl
   have hfs65 := blk_frozen BK204.out 1
   have hns65_0 := NB203_204.out
   have hns65_2 := NB219_204.out
   have hms65_0 := NB204_203.out
   have hms65_2 := NB204_219.out
   have hs66 : w63.cell? ⟨gb204, 2, none⟩ = some (.int .i64 0) := (blk_cell BK204.out 2).trans rfl
   have hfs66 := blk_frozen BK204.out 2
   have hns66_0 := NB203_204.out
   have hns66_2 := NB219_204.out
   have hms66_0 := NB204_203.out
   have hms66_2 := NB204_219.out
   have hs67 : w63.cell? ⟨gb204, 3, none⟩ = some (.int .i64 0) := (blk_cell BK204.out 3).trans rfl
   have hfs67 := blk_frozen BK204.out 3
   have hns67_0 := NB203_204.out
   have hns67_2 := NB219_204.out
   have hms67_0 := NB204_203.out
   have hms67_2 := NB204_219.out
   have hs68 : w63.cell? ⟨gb204, 4, none⟩ = some (.slice none 0 0) := (blk_cell BK204.out 4).trans rfl
   have hfs68 := blk_frozen BK204.out 4
   have hns68_0 := NB203_204.out
   have hns68_2 := NB219_204.out
   have hms68_0 := NB204_203.out
   have hms68_2 := NB204_219.out
   refine skip_ (w1 := ?_) (by rfl) rfl ?_ ?_
   rotate_left
   ·go_simp
    rfl
   refine hK.out _ _ ⟨((cell_far (p := ⟨gb204, _, none⟩) NB219_204.out _).trans (((cell_far (p := ⟨gb204, _, none⟩) NB219_204.out _).trans (((cell_far (p := ⟨gb204, _, none⟩) NB219_204.out _).trans (((cell_far (p := ⟨gb204, _, none⟩) NB219_204.out _).trans (((cell_far (p := ⟨gb204, _, none⟩) NB219_204.out _).trans (hHeld.1)))))))))), ((cell_far (p := ⟨gb204, _, none⟩) NB219_204.out _).trans (((cell_far (p := ⟨gb204, _, none⟩) NB219_204.out _).trans (((cell_far (p := ⟨gb204, _, none⟩) NB219_204.out _).trans (((cell_far (p := ⟨gb204, _, none⟩) NB219_204.out _).trans (((cell_far (p := ⟨gb204, _, none⟩) NB219_204.out _).trans (hHeld.2.1)))))))))), ((cell_far (p := ⟨gb204, _, none⟩) NB219_204.out _).trans (((cell_far (p := ⟨gb204, _, none⟩) NB219_204.out _).trans (((cell_far (p := ⟨gb204, _, none⟩) NB219_204.out _).trans (((cell_far (p := ⟨gb204, _, none⟩) NB219_204.out _).trans (((cell_far (p := ⟨gb204, _, none⟩) NB219_204.out _).trans (hHeld.2.2.1)))))))))), ((cell_far (p := ⟨gb204, _, none⟩) NB219_204.out _).trans (((cell_far (p := ⟨gb204, _, none⟩) NB219_204.out _).trans (((cell_far (p := ⟨gb204, _, none⟩) NB219_204.out _).trans (((cell_far (p := ⟨gb204, _, none⟩) NB219_204.out _).trans (((cell_far (p := ⟨gb204, _, none⟩) NB219_204.out _).trans (hHeld.2.2.2.1)))))))))), ((cell_far (p := ⟨gb204, _, none⟩) NB219_204.out _).trans (((cell_far (p := ⟨gb204, _, none⟩) NB219_204.out _).trans (((cell_far (p := ⟨gb204, _, none⟩) NB219_204.out _).trans (((cell_far (p := ⟨gb204, _, none⟩) NB219_204.out _).trans (((cell_far (p := ⟨gb204, _, none⟩) NB219_204.out _).trans (hHeld.2.2.2.2.1)))))))))), ((cell_far (p := ⟨gb204, _, none⟩) NB203_204.out _).trans (((cell_far (p := ⟨gb204, _, none⟩) NB203_204.out _).trans (((cell_far (p := ⟨gb204, _, none⟩) NB203_204.out _).trans (((cell_far (p := ⟨gb204, _, none⟩) NB203_204.out _).trans (((cell_far (p := ⟨gb204, _, none⟩) NB203_204.out _).trans (hHeld.2.2.2.2.2.1)))))))))), ((cell_far (p := ⟨gb204, _, none⟩) NB203_204.out _).trans (((cell_far (p := ⟨gb204, _, none⟩) NB203_204.out _).trans (((cell_far (p := ⟨gb204, _, none⟩) NB203_204.out _).trans (((cell_far (p := ⟨gb204, _, none⟩) NB203_204.out _).trans (((cell_far (p := ⟨gb204, _, none⟩) NB203_204.out _).trans (hHeld.2.2.2.2.2.2.1)))))))))), ((cell_far (p := ⟨gb204, _, none⟩) NB203_204.out _).trans (((cell_far (p := ⟨gb204, _, none⟩) NB203_204.out _).trans (((cell_far (p := ⟨gb204, _, none⟩) NB203_204.out _).trans (((cell_far (p := ⟨gb204, _, none⟩) NB203_204.out _).trans (((cell_far (p := ⟨gb204, _, none⟩) NB203_204.out _).trans (hHeld.2.2.2.2.2.2.2.1)))))))))), ((cell_far (p := ⟨gb204, _, none⟩) NB203_204.out _).trans (((cell_far (p := ⟨gb204, _, none⟩) NB203_204.out _).trans (((cell_far (p := ⟨gb204, _, none⟩) NB203_204.out _).trans (((cell_far (p := ⟨gb204, _, none⟩) NB203_204.out _).trans (((cell_far (p := ⟨gb204, _, none⟩) NB203_204.out _).trans (hHeld.2.2.2.2.2.2.2.2.1)))))))))), ((cell_far (p := ⟨gb204, _, none⟩) NB203_204.out _).trans (((cell_far (p := ⟨gb204, _, none⟩) NB203_204.out _).trans (((cell_far (p := ⟨gb204, _, none⟩) NB203_204.out _).trans (((cell_far (p := ⟨gb204, _, none⟩) NB203_204.out _).trans (((cell_far (p := ⟨gb204, _, none⟩) NB203_204.out _).trans (hHeld.2.2.2.2.2.2.2.2.2))))))))))⟩ (fun hHeld => ?_)
   clear hK K
   refine pure_ (i := 15) (N := some 5) (v := ?_) (a' := ?_) #[T_, T_, T_, T_, T_, T_, T_, T_, T_, T_, T_, T_, T_, T_, T_, T_, F_] rfl rfl (any_of HT_.out (by kernel_rfl)) (fun _ _ _ h => h) (Or.inl ⟨by rfl, ?_⟩) ?_ ?_
   rotate_left
   ·intro w'
    go_simp
    with_reducible rfl
   rotate_left
   ·simp only [Act.put, la_, lz_, ls_, i64_w, i32_w]
    rfl
   refine pure_ (i := 16) (N := some 6) (v := ?_) (a' := ?_) #[T_, T_, T_, T_, T_, T_, T_, T_, T_, T_, T_, T_, T_, T_, T_, T_, T_] rfl rfl (any_of HT_.out (by kernel_rfl)) (fun _ _ _ h => h) (Or.inl ⟨by rfl, ?_⟩) ?_ ?_
   rotate_left
   ·intro w'
    go_simp
    with_reducible rfl
   rotate_left
   ·simp only [Act.put, la_, lz_, ls_, i64_w, i32_w]
    rfl
   refine done_ (done_of HT_.out (by kernel_rfl)) ?_
   try go_wp2
   refine bodyPost_ret (results_ctt rfl _ _ gb204 51 #[.int .i64 t210, .slice Ao55 t211.length co55, .int .i64 ji22, .int .i64 t215, .slice Ao56 t216.length co56] (0, 0) _ rfl (by (with_reducible repeat (first | refine bn_ ?_ _ | refine bw_ ?_ | refine ba_ ?_ _)); refine blk_put (cs := #[.int .i64 t210, .slice Ao55 t211.length co55, .int .i64 ji22, .int .i64 t215, .slice none 0 0]) ?_ 4 _ rfl; (with_reducible repeat (first | refine bn_ ?_ _ | refine bw_ ?_ | refine ba_ ?_ _)); refine blk_put (cs := #[.int .i64 t210, .slice Ao55 t211.length co55, .int .i64 ji22, .int .i64 0, .slice none 0 0]) ?_ 3 _ rfl; (with_reducible repeat (first | refine bn_ ?_ _ | refine bw_ ?_ | refine ba_ ?_ _)); refine blk_put (cs := #[.int .i64 t210, .slice Ao55 t211.length co55, .int .i64 0, .int .i64 0, .slice none 0 0]) ?_ 2 _ rfl; (with_reducible repeat (first | refine bn_ ?_ _ | refine bw_ ?_ | refine ba_ ?_ _)); refine blk_put (cs := #[.int .i64 t210, .slice none 0 0, .int .i64 0, .int .i64 0, .slice none 0 0]) ?_ 1 _ rfl; (with_reducible repeat (first | refine bn_ ?_ _ | refine bw_ ?_ | refine ba_ ?_ _)); refine blk_put (cs := #[.int .i64 0, .slice none 0 0, .int .i64 0, .int .i64 0, .slice none 0 0]) ?_ 0 _ rfl; (with_reducible repeat (first | refine bn_ ?_ _ | refine bw_ ?_ | refine ba_ ?_ _)); exact BK204.out) Try.underlying51 rfl (by kernel_rfl)) rfl ?_
   exact ⟨_, _, _, by first | rfl | (simp [errW_none, errW_some] <;> rfl) | (simp only [← hji21, ← hji22]; first | rfl | (simp [errW_none, errW_some] <;> rfl)) | (simp [*, errW_none, errW_some] <;> rfl), by (with_reducible repeat (first | apply Kd.R_alloc | apply Kd.R_drewN | apply Kd.R_drew)); exact Kd.R_mono (Kd.R_far (p := ⟨gb204, 4, none⟩) (Kd.R_far (p := ⟨gb204, 3, none⟩) (Kd.R_far (p := ⟨gb204, 2, none⟩) (Kd.R_far (p := ⟨gb204, 1, none⟩) (Kd.R_far (p := ⟨gb204, 0, none⟩) (Kd.R_types HO213.out BK204.out (by decide)) (fun _ hk => hk.2) (.int .i64 t210)) (fun _ hk => hk.2) (.slice Ao55 t211.length co55)) (fun _ hk => hk.2) (.int .i64 ji22)) (fun _ hk => hk.2) (.int .i64 t215)) (fun _ hk => hk.2) (.slice Ao56 t216.length co56)) (fun _ hk => hk.1.2), by (with_reducible repeat (first | apply Kd.R_alloc | apply Kd.R_drewN | apply Kd.R_drew)); exact Kd.R_mono (Kd.R_far (p := ⟨gb204, 4, none⟩) (Kd.R_far (p := ⟨gb204, 3, none⟩) (Kd.R_far (p := ⟨gb204, 2, none⟩) (Kd.R_far (p := ⟨gb204, 1, none⟩) (Kd.R_far (p := ⟨gb204, 0, none⟩) (Kd.R_types HO218.out BK204.out (by decide)) (fun _ hk => hk.2) (.int .i64 t210)) (fun _ hk => hk.2) (.slice Ao55 t211.length co55)) (fun _ hk => hk.2) (.int .i64 ji22)) (fun _ hk => hk.2) (.int .i64 t215)) (fun _ hk => hk.2) (.slice Ao56 t216.length co56)) (fun _ hk => trivial), by (with_reducible repeat (first | apply Kd.R_alloc | apply Kd.R_drewN | apply Kd.R_drew)); exact Kd.R_mono (Kd.R_far (p := ⟨gb204, 4, none⟩) (Kd.R_far (p := ⟨gb204, 3, none⟩) (Kd.R_far (p := ⟨gb204, 2, none⟩) (Kd.R_far (p := ⟨gb204, 1, none⟩) (Kd.R_far (p := ⟨gb204, 0, none⟩) (Kd.R_types HO229.out BK204.out (by decide)) (fun _ hk => hk.2) (.int .i64 t210)) (fun _ hk => hk.2) (.slice Ao55 t211.length co55)) (fun _ hk => hk.2) (.int .i64 ji22)) (fun _ hk => hk.2) (.int .i64 t215)) (fun _ hk => hk.2) (.slice Ao56 t216.length co56)) (fun _ hk => hk.1), us_ HB.out⟩

end Go.Proofs.Ytfcocnhkimbpbaa.MFnMouthOk
