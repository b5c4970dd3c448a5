/- Functions that the law FnMailFrom reaches, each with the proof that the machine's call comes to just its answer; no conditions but those that each theorem states. Printed by a program of this session over the kit's print. -/
import Derived.Test.YtfcocnhkimbpbaaMFnMailFromx0
import Derived.Test.YtfcocnhkimbpbaaMFnMailFromx4
namespace Go.Proofs.Ytfcocnhkimbpbaa.MFnMailFrom
open Go.RowKit Go.Proofs.YtfcocnhkimbpbaaV.PrintWords Go.Proofs.YtfcocnhkimbpbaaV.PrintLast Go.Proofs.YtfcocnhkimbpbaaV.PrintMore
attribute [local go_sem] max2_int min2_int max_two min_two max_three min_three max_four min_four   -- for this text's walks alone
set_option linter.unusedVariables false
set_option linter.unusedSimpArgs false

/-! ### spec_MailFrom: function 23 -/
def spec_MailFrom.j0 : Nat → Int → Int → List Int → Bool → Option (Int × Int × Int × List Int × Bool)
 | 0, _, _, _, _ => none
 | k + 1, x0, x1, x2, x21 => if x21 = true then (some (0, 0, 0, ([] : List Int), false)) else (if 0 < (x2.length : Int) then (if 1 < (x2.length : Int) then ((some (([] : List Int) : List Int)).bind fun y219 => (if 3 ≤ (wrap64 ((x2.length : Int) - 2)) then (if (wrap64 ((x2.length : Int) - 2)) ≤ (x2.length : Int) then (if y219.length + ((x2.take ((wrap64 ((x2.length : Int) - 2)) : Int).toNat).drop 3).length < 140737488355328 then ((some (y219 ++ ((x2.take ((wrap64 ((x2.length : Int) - 2)) : Int).toNat).drop 3) : List Int)).bind fun y223 => ((spec_MailOk.f x0 (wrap64 (rd x2 0)) (wrap64 (rd x2 1)) y223).bind fun t227 => (if t227 = true then (if 2 < (x2.length : Int) then (if (wrap64 (rd x2 2)) = (y223.length : Int) then ((spec_NumberAt.f k x2 (wrap64 ((x2.length : Int) - 2)) 2).bind fun t229 => (if 0 ≤ (wrap64 ((x2.length : Int) - 2)) then ((spec_l9Sum.f k x0 x1 (x2.take ((wrap64 ((x2.length : Int) - 2)) : Int).toNat)).bind fun t231 => (if t229 = t231 then (some (x0, wrap64 (rd x2 0), wrap64 (rd x2 1), y223, true)) else (some (0, 0, 0, ([] : List Int), false)))) else (none))) else (some (0, 0, 0, ([] : List Int), false))) else (none)) else (some (0, 0, 0, ([] : List Int), false))))) else (none)) else (none)) else (none))) else (none)) else (none))
def spec_MailFrom.f (k : Nat) (a0 : Int) (a1 : Int) (l2 : List Int) : Option (Int × Int × Int × List Int × Bool) := if (l2.length : Int) < 5 then (spec_MailFrom.j0 k a0 a1 l2 true) else ((spec_l1In.f a0 0 65535).bind fun t215 => (if t215 = true then ((spec_l1In.f a1 0 65535).bind fun t216 => (spec_MailFrom.j0 k a0 a1 l2 (!t216))) else (spec_MailFrom.j0 k a0 a1 l2 true)))
theorem spec_MailFrom.mono_l : ∀ k, (∀ y0 y1 y2 y3, LeO (spec_MailFrom.j0 k y0 y1 y2 y3) (spec_MailFrom.j0 (k + 1) y0 y1 y2 y3))
 | 0 => fun _ _ _ _ r h => by simp [spec_MailFrom.j0] at h
 | k + 1 => by
  have ih0 := spec_MailFrom.mono_l k
  ·intro y0 y1 y2 y3
   unfold spec_MailFrom.j0
   repeat' first
   | (with_reducible exact ih0 _ _ _ _)
   | (with_reducible exact spec_NumberAt.mono _ _ _ _)
   | (with_reducible exact spec_l9Sum.mono _ _ _ _)
   | (with_reducible exact LeO.refl _)
   | (with_reducible exact LeO.none _)
   | (with_reducible refine LeO.ite ?_ ?_)
   | (with_reducible refine LeO.bind ?_ (fun _ => ?_))
   | exact ih0 _ _ _ _
   | exact spec_NumberAt.mono _ _ _ _
   | exact spec_l9Sum.mono _ _ _ _
   | exact LeO.none _
   | refine LeO.ite ?_ ?_
   | refine LeO.bind ?_ (fun _ => ?_)
theorem spec_MailFrom.mono : ∀ a0 a1 a2 k, LeO (spec_MailFrom.f k a0 a1 a2) (spec_MailFrom.f (k + 1) a0 a1 a2) := by
 intro a0 a1 a2 k
 have ih0 := spec_MailFrom.mono_l k
 unfold spec_MailFrom.f
 repeat' first
   | (with_reducible exact ih0 _ _ _ _)
   | (with_reducible exact spec_NumberAt.mono _ _ _ _)
   | (with_reducible exact spec_l9Sum.mono _ _ _ _)
   | (with_reducible exact LeO.refl _)
   | (with_reducible exact LeO.none _)
   | (with_reducible refine LeO.ite ?_ ?_)
   | (with_reducible refine LeO.bind ?_ (fun _ => ?_))
   | exact ih0 _ _ _ _
   | exact spec_NumberAt.mono _ _ _ _
   | exact spec_l9Sum.mono _ _ _ _
   | exact LeO.none _
   | refine LeO.ite ?_ ?_
   | refine LeO.bind ?_ (fun _ => ?_)
def spec_MailFrom.T3 : Bool × List (List Nat × List Nat) := (true, [([], []), ([], []), ([1], [1]), ([2], [2]), ([3], [3]), ([], []), ([5], [5]), ([6], [6]), ([7], [7]), ([], []), ([], []), ([], []), ([11], [11]), ([12], [12]), ([10, 13], [10, 13]), ([9, 14], [9, 14]), ([0, 4, 8, 15], [0, 4, 8, 15]), ([], []), ([17, 16, 15, 0, 1, 2, 3, 4, 5, 6, 7, 8, 9, 10, 11, 12, 13, 14, 15, 16, 17], [16, 17])])
def spec_MailFrom.B3 : List Nat := [0, 0, 2, 6, 14, 0, 32, 96, 224, 0, 0, 0, 2048, 6144, 15360, 32256, 65535, 0, 262143]
theorem spec_MailFrom.tab3 : rtab .any (opsOf Try.f23 3) = spec_MailFrom.T3 := by kernel_rfl
theorem spec_MailFrom.bits3 : waitsOk spec_MailFrom.T3.2 spec_MailFrom.B3 = true := by kernel_rfl
def spec_MailFrom.T4 : Bool × List (List Nat × List Nat) := (true, [([], []), ([0], [0]), ([1], [1]), ([2, 1], [2]), ([3], [3]), ([4, 3], [3, 4]), ([5, 3], [3, 5]), ([6, 3], [3, 6]), ([3], [3]), ([8, 3], [3, 8]), ([9, 3], [3, 9]), ([7, 10, 3], [3, 7, 10]), ([3, 11], [3, 11]), ([12, 3], [12]), ([13], [13]), ([13], [13]), ([15, 13], [13, 15]), ([16, 13], [13, 16]), ([14, 17, 13, 13], [13, 14, 17]), ([13], [13]), ([13], [13]), ([13], [13]), ([13], [13]), ([22, 13], [13, 22]), ([23, 13], [13, 23]), ([21, 24, 13], [13, 21, 24]), ([19, 20, 25, 18, 13], [13, 19, 20, 25]), ([18, 26, 13], [13, 18, 26]), ([13, 27], [13, 27])])
def spec_MailFrom.B4 : List Nat := [0, 1, 3, 7, 15, 31, 63, 127, 15, 271, 783, 2047, 4095, 8191, 16383, 16383, 49151, 114687, 262143, 16383, 16383, 16383, 16383, 4210687, 12599295, 31473663, 67108863, 134217727, 268435455]
theorem spec_MailFrom.tab4 : rtab .any (opsOf Try.f23 4) = spec_MailFrom.T4 := by kernel_rfl
theorem spec_MailFrom.bits4 : waitsOk spec_MailFrom.T4.2 spec_MailFrom.B4 = true := by kernel_rfl
set_option maxHeartbeats 8000000 in
set_option maxRecDepth 100000 in
theorem spec_MailFrom.calls (k : Nat) (a0 : Int) (a1 : Int) (A2 : Option Addr) (c2 : Nat) (l2 : List Int) (r1 : Int) (r2 : Int) (r3 : Int) (r4 : List Int) (r5 : Bool) (w : World) (hr2 : Kd.C (Kd.int .u8) w A2 l2.length l2) (hc2 : l2.length ≤ c2) (h : spec_MailFrom.f k a0 a1 l2 = some (r1, r2, r3, r4, r5)) :
  Calls Try.prog 23 #[.int .i64 a0, .int .i64 a1, .slice A2 l2.length c2] w fun e w' => ∃ v3_ : Value, e = .returned (.tuple #[.agg #[.int .i64 r1, .int .i64 r2, .int .i64 r3, v3_], .bool r5]) ∧ Kd.R (Kd.int .u8) 5 w' w.heap.size (fun _ => True) v3_ r4 ∧ Below w.heap.size w w' := by
 have hu27 := Try.underlying27
 have HR2 := mk_ hr2
 have HC2 := mk_ hc2
 clear hr2 hc2
 have HB := mk_ (Below.refl w.heap.size w)
 have H : (if (l2.length : Int) < 5 then (spec_MailFrom.j0 k a0 a1 l2 true) else ((spec_l1In.f a0 0 65535).bind fun t215 => (if t215 = true then ((spec_l1In.f a1 0 65535).bind fun t216 => (spec_MailFrom.j0 k a0 a1 l2 (!t216))) else (spec_MailFrom.j0 k a0 a1 l2 true)))) = some (r1, r2, r3, r4, r5) := h
 clear h
 have HC4 := mk_ H
 clear H
 go_enter Try.func23, Try.ntmps23
 go_upto_region 1 with (first | ((with_reducible refine gate_dst (N := 6) rfl ?_); refine box_event ?hg (N := 6) ?hd (cs := #[.int .i64 0, .int .i64 0, .int .i64 0, .slice none 0 0]) (t := 27) ?hr ?_; (case hd => rfl); (case hg => rfl); (case hr => first | (go_simp; done) | (go_simp; rfl)); intro gb214 hg w5 hbox hb; have n0_ := mk_ (below_step (ub_ HB.out) hb); have n1_ := mk_ (hbox); have n2_ := mk_ ((by rw [hg]; exact (below_size (ub_ HB.out)) : w.heap.size ≤ gb214)); have n3_ := mk_ ((by rw [hg]; exact (below_size (ub_ HB.out)) : w.heap.size ≤ gb214)); clear HB; have HB := n0_; have BK214 := n1_; have GW214 := n2_; have GE214 := ge_ n3_.out; clear n0_ n1_ n2_ n3_; clear hb hbox hg))
 (try simp only [Act.put, la_, lz_, ls_])
 go_cut [21] (fun v21 wc => ∃ (kq : Nat) (x21_3 : Bool), v21 = .bool x21_3 ∧ Aside0 (spec_MailFrom.j0 kq a0 a1 l2 x21_3 = some (r1, r2, r3, r4, r5)) ∧ Aside0 (kq ≤ k) ∧ Aside0 (wc.heap[gb214]? = some (.cells #[.int .i64 0, .int .i64 0, .int .i64 0, (.slice none 0 0)] 27 (0, 0))) ∧ Aside0 (Below w.heap.size w wc))
 case first =>
  have H := HC4.out
  clear HC4
  by_cases c6 : (l2.length : Int) < 5
  ·rw [if_pos c6] at H
   have c6b0 : decide ((l2.length : Int) < 5) = true := decide_eq_true c6
   have c6b1 : decide (l2.length < 5) = true := decide_eq_true (by omega)
   clear c6
   (first | rw [c6b0] | (simp only [i64_w, i32_w]; rw [c6b0]) | skip)
   have H' := mk_ H
   clear H
   go_wp2
   go_meet
   case rel => exact ⟨_, (true), (by first | rfl | (simp; done) | (simp [*]; done)), H', ⟨by first | omega | exact Nat.le_refl _⟩, ⟨u_ BK214.out⟩, ⟨us_ HB.out⟩⟩
  rw [if_neg c6] at H
  have c6b0 : decide ((l2.length : Int) < 5) = false := decide_eq_false c6
  have c6b1 : decide (l2.length < 5) = false := decide_eq_false (by omega)
  clear c6
  (first | rw [c6b0] | (simp only [i64_w, i32_w]; rw [c6b0]) | skip)
  replace H := Option.bind_eq_some_iff.mp H
  obtain ⟨t215, A70, H⟩ := H
  replace H : (if t215 = true then ((spec_l1In.f a1 0 65535).bind fun t216 => (spec_MailFrom.j0 k a0 a1 l2 (!t216))) else (spec_MailFrom.j0 k a0 a1 l2 true)) = some (r1, r2, r3, r4, r5) := H
  have A7 := mk_ A70
  clear A70
  by_cases c8 : t215 = true
  rotate_left
  ·replace c8 := Bool.eq_false_iff.mpr c8
   subst c8
   have H1 : (spec_MailFrom.j0 k a0 a1 l2 true) = some (r1, r2, r3, r4, r5) := by rw [if_neg (show ¬ (false = true) by decide)] at H; exact H
   clear H
   have H := H1
   clear H1
   have H' := mk_ H
   clear H
   go_wp2_with (first | (go_at_call 35; (with_reducible refine (spec_l1In.calls a0 0 65535 false _ A7.out).mono ?_); rintro e w' ⟨rfl, ⟨nd, rfl⟩⟩))
   go_meet
   case rel => exact ⟨_, (true), (by first | rfl | (simp; done) | (simp [*]; done)), H', ⟨by first | omega | exact Nat.le_refl _⟩, ⟨u_ BK214.out⟩, ⟨us_ HB.out⟩⟩
  subst c8
  have H1 : ((spec_l1In.f a1 0 65535).bind fun t216 => (spec_MailFrom.j0 k a0 a1 l2 (!t216))) = some (r1, r2, r3, r4, r5) := by rw [if_pos rfl] at H; exact H
  clear H
  have H := H1
  clear H1
  replace H := Option.bind_eq_some_iff.mp H
  obtain ⟨t216, A90, H⟩ := H
  replace H : (spec_MailFrom.j0 k a0 a1 l2 (!t216)) = some (r1, r2, r3, r4, r5) := H
  have A9 := mk_ A90
  clear A90
  have H' := mk_ H
  clear H
  go_wp2_with (first | (go_at_call 35; have hA_ := A7.out; (with_reducible refine (spec_l1In.calls a0 0 65535 true _ A7.out).mono ?_); rintro e w' ⟨rfl, ⟨nd, rfl⟩⟩; clear hA_ A7) | (go_at_call 35; have hA_ := A9.out; (with_reducible refine (spec_l1In.calls a1 0 65535 t216 _ A9.out).mono ?_); rintro e w' ⟨rfl, ⟨nd, rfl⟩⟩; clear hA_ A9))
  go_meet
  case rel => exact ⟨_, (!t216), (by first | rfl | (simp; done) | (simp [*]; done)), H', ⟨by first | omega | exact Nat.le_refl _⟩, ⟨u_ BK214.out⟩, ⟨us_ HB.out⟩⟩
 case rest =>
  clear HC4
  try clear c2
  try clear p2
  try clear c6
  try clear c6b0
  try clear c6b1
  try clear c8
  obtain ⟨kq, x21_3, rfl, HA, HJ3, BK214, HB⟩ := hcut
  cases kq with
  | zero => exact absurd HA.out (by simp [spec_MailFrom.j0])
  | succ kj3 =>
   have H := HA.out
   clear HA
   simp only [spec_MailFrom.j0] at H
   by_cases c10 : x21_3 = true
   ·subst c10
    have H1 : (some (0, 0, 0, ([] : List Int), false)) = some (r1, r2, r3, r4, r5) := by rw [if_pos rfl] at H; exact H
    clear H
    have H := H1
    clear H1
    simp only [Option.some.injEq, Prod.mk.injEq] at H
    obtain ⟨rfl, rfl, rfl, rfl, rfl⟩ := H
    obtain ⟨hcz11_0, hcz11_1, hcz11_2, hcz11_3, hfz11_0, hfz11_1, hfz11_2, hfz11_3⟩ := cells4_ BK214.out
    go_wp2
    refine bodyPost_ret (results_ct rfl _ _ gb214 27 #[.int .i64 0, .int .i64 0, .int .i64 0, .slice none 0 0] (0, 0) _ rfl (by (with_reducible repeat (first | refine bn_ ?_ _ | refine bw_ ?_ | refine ba_ ?_ _)); refine blk_put (cs := #[.int .i64 0, .int .i64 0, .int .i64 0, .slice none 0 0]) ?_ 3 _ rfl; (with_reducible repeat (first | refine bn_ ?_ _ | refine bw_ ?_ | refine ba_ ?_ _)); refine blk_put (cs := #[.int .i64 0, .int .i64 0, .int .i64 0, .slice none 0 0]) ?_ 2 _ rfl; (with_reducible repeat (first | refine bn_ ?_ _ | refine bw_ ?_ | refine ba_ ?_ _)); refine blk_put (cs := #[.int .i64 0, .int .i64 0, .int .i64 0, .slice none 0 0]) ?_ 1 _ rfl; (with_reducible repeat (first | refine bn_ ?_ _ | refine bw_ ?_ | refine ba_ ?_ _)); refine blk_put (cs := #[.int .i64 0, .int .i64 0, .int .i64 0, .slice none 0 0]) ?_ 0 _ rfl; (with_reducible repeat (first | refine bn_ ?_ _ | refine bw_ ?_ | refine ba_ ?_ _)); exact BK214.out) Try.underlying27 rfl (by kernel_rfl)) rfl ?_
    exact ⟨_, by first | rfl | (simp [errW_none, errW_some] <;> rfl) | (simp [*, errW_none, errW_some] <;> rfl), by first | exact Kd.R_nil _ _ _ _ _ | exact Kd.N_nil _ _ _ _ _ | exact Kd.V_nil _ _ _ _ _ | exact Kd.Q_nil _ _ _ _ _ | exact Kd.S_nil _ _ _ _ _, us_ HB.out⟩
   replace c10 := Bool.eq_false_iff.mpr c10
   subst c10
   have H1 : (if 0 < (l2.length : Int) then (if 1 < (l2.length : Int) then ((some (([] : List Int) : List Int)).bind fun y219 => (if 3 ≤ (wrap64 ((l2.length : Int) - 2)) then (if (wrap64 ((l2.length : Int) - 2)) ≤ (l2.length : Int) then (if y219.length + ((l2.take ((wrap64 ((l2.length : Int) - 2)) : Int).toNat).drop 3).length < 140737488355328 then ((some (y219 ++ ((l2.take ((wrap64 ((l2.length : Int) - 2)) : Int).toNat).drop 3) : List Int)).bind fun y223 => ((spec_MailOk.f a0 (wrap64 (rd l2 0)) (wrap64 (rd l2 1)) y223).bind fun t227 => (if t227 = true then (if 2 < (l2.length : Int) then (if (wrap64 (rd l2 2)) = (y223.length : Int) then ((spec_NumberAt.f kj3 l2 (wrap64 ((l2.length : Int) - 2)) 2).bind fun t229 => (if 0 ≤ (wrap64 ((l2.length : Int) - 2)) then ((spec_l9Sum.f kj3 a0 a1 (l2.take ((wrap64 ((l2.length : Int) - 2)) : Int).toNat)).bind fun t231 => (if t229 = t231 then (some (a0, wrap64 (rd l2 0), wrap64 (rd l2 1), y223, true)) else (some (0, 0, 0, ([] : List Int), false)))) else (none))) else (some (0, 0, 0, ([] : List Int), false))) else (none)) else (some (0, 0, 0, ([] : List Int), false))))) else (none)) else (none)) else (none))) else (none)) else (none)) = some (r1, r2, r3, r4, r5) := by rw [if_neg (show ¬ (false = true) by decide)] at H; exact H
   clear H
   have H := H1
   clear H1
   by_cases c12 : 0 < (l2.length : Int)
   rotate_left
   ·rw [if_neg c12] at H
    exact absurd H (by simp)
   rw [if_pos c12] at H
   have c12b0 : decide (0 < (l2.length : Int)) = true := decide_eq_true c12
   have c12b1 : decide (0 < l2.length) = true := decide_eq_true (by omega)
   clear c12
   by_cases c13 : 1 < (l2.length : Int)
   rotate_left
   ·rw [if_neg c13] at H
    exact absurd H (by simp)
   rw [if_pos c13] at H
   have c13b0 : decide (1 < (l2.length : Int)) = true := decide_eq_true c13
   have c13b1 : decide (1 < l2.length) = true := decide_eq_true (by omega)
   clear c13
   obtain ⟨y219, hy219⟩ : ∃ y_ : List Int, y_ = (([] : List Int)) := ⟨_, rfl⟩
   replace H : (if 3 ≤ (wrap64 ((l2.length : Int) - 2)) then (if (wrap64 ((l2.length : Int) - 2)) ≤ (l2.length : Int) then (if y219.length + ((l2.take ((wrap64 ((l2.length : Int) - 2)) : Int).toNat).drop 3).length < 140737488355328 then ((some (y219 ++ ((l2.take ((wrap64 ((l2.length : Int) - 2)) : Int).toNat).drop 3) : List Int)).bind fun y223 => ((spec_MailOk.f a0 (wrap64 (rd l2 0)) (wrap64 (rd l2 1)) y223).bind fun t227 => (if t227 = true then (if 2 < (l2.length : Int) then (if (wrap64 (rd l2 2)) = (y223.length : Int) then ((spec_NumberAt.f kj3 l2 (wrap64 ((l2.length : Int) - 2)) 2).bind fun t229 => (if 0 ≤ (wrap64 ((l2.length : Int) - 2)) then ((spec_l9Sum.f kj3 a0 a1 (l2.take ((wrap64 ((l2.length : Int) - 2)) : Int).toNat)).bind fun t231 => (if t229 = t231 then (some (a0, wrap64 (rd l2 0), wrap64 (rd l2 1), y223, true)) else (some (0, 0, 0, ([] : List Int), false)))) else (none))) else (some (0, 0, 0, ([] : List Int), false))) else (none)) else (some (0, 0, 0, ([] : List Int), false))))) else (none)) else (none)) else (none)) = some (r1, r2, r3, r4, r5) := by first | (rw [hy219]; with_reducible exact H) | (have H2_ := (Option.bind_some _ _).symm.trans H; rw [hy219]; with_reducible exact H2_) | (have H2_ := (Option.bind_some _ _).symm.trans H; with_reducible exact H2_) | with_reducible exact H | (rw [hy219]; exact H) | exact H
   have Ny219 := mk_ hy219
   clear hy219
   by_cases c14 : 3 ≤ (wrap64 ((l2.length : Int) - 2))
   rotate_left
   ·rw [if_neg c14] at H
    exact absurd H (by simp)
   rw [if_pos c14] at H
   have c14b0 := eq_true c14
   have c14b1 : decide (3 ≤ (wrap64 ((l2.length : Int) - 2))) = true := decide_eq_true c14
   clear c14
   by_cases c15 : (wrap64 ((l2.length : Int) - 2)) ≤ (l2.length : Int)
   rotate_left
   ·rw [if_neg c15] at H
    exact absurd H (by simp)
   rw [if_pos c15] at H
   have c15b0 := eq_true c15
   have c15b1 : decide ((wrap64 ((l2.length : Int) - 2)) ≤ (l2.length : Int)) = true := decide_eq_true c15
   clear c15
   by_cases c16 : y219.length + ((l2.take ((wrap64 ((l2.length : Int) - 2)) : Int).toNat).drop 3).length < 140737488355328
   rotate_left
   ·rw [if_neg c16] at H
    exact absurd H (by simp)
   rw [if_pos c16] at H
   have LMc16 := mk_ c16
   clear c16
   obtain ⟨y223, hy223⟩ : ∃ y_ : List Int, y_ = (y219 ++ ((l2.take ((wrap64 ((l2.length : Int) - 2)) : Int).toNat).drop 3)) := ⟨_, rfl⟩
   replace H : ((spec_MailOk.f a0 (wrap64 (rd l2 0)) (wrap64 (rd l2 1)) y223).bind fun t227 => (if t227 = true then (if 2 < (l2.length : Int) then (if (wrap64 (rd l2 2)) = (y223.length : Int) then ((spec_NumberAt.f kj3 l2 (wrap64 ((l2.length : Int) - 2)) 2).bind fun t229 => (if 0 ≤ (wrap64 ((l2.length : Int) - 2)) then ((spec_l9Sum.f kj3 a0 a1 (l2.take ((wrap64 ((l2.length : Int) - 2)) : Int).toNat)).bind fun t231 => (if t229 = t231 then (some (a0, wrap64 (rd l2 0), wrap64 (rd l2 1), y223, true)) else (some (0, 0, 0, ([] : List Int), false)))) else (none))) else (some (0, 0, 0, ([] : List Int), false))) else (none)) else (some (0, 0, 0, ([] : List Int), false)))) = some (r1, r2, r3, r4, r5) := by first | (rw [hy223]; with_reducible exact H) | (have H2_ := (Option.bind_some _ _).symm.trans H; rw [hy223]; with_reducible exact H2_) | (have H2_ := (Option.bind_some _ _).symm.trans H; with_reducible exact H2_) | with_reducible exact H | (rw [hy223]; exact H) | exact H
   have Ny223 := mk_ hy223
   clear hy223
   replace H := Option.bind_eq_some_iff.mp H
   obtain ⟨t227, A170, H⟩ := H
   replace H : (if t227 = true then (if 2 < (l2.length : Int) then (if (wrap64 (rd l2 2)) = (y223.length : Int) then ((spec_NumberAt.f kj3 l2 (wrap64 ((l2.length : Int) - 2)) 2).bind fun t229 => (if 0 ≤ (wrap64 ((l2.length : Int) - 2)) then ((spec_l9Sum.f kj3 a0 a1 (l2.take ((wrap64 ((l2.length : Int) - 2)) : Int).toNat)).bind fun t231 => (if t229 = t231 then (some (a0, wrap64 (rd l2 0), wrap64 (rd l2 1), y223, true)) else (some (0, 0, 0, ([] : List Int), false)))) else (none))) else (some (0, 0, 0, ([] : List Int), false))) else (none)) else (some (0, 0, 0, ([] : List Int), false))) = some (r1, r2, r3, r4, r5) := H
   have A17 := mk_ A170
   clear A170
   by_cases c18 : t227 = true
   rotate_left
   ·replace c18 := Bool.eq_false_iff.mpr c18
    subst c18
    have H1 : (some (0, 0, 0, ([] : List Int), false)) = some (r1, r2, r3, r4, r5) := by rw [if_neg (show ¬ (false = true) by decide)] at H; exact H
    clear H
    have H := H1
    clear H1
    simp only [Option.some.injEq, Prod.mk.injEq] at H
    obtain ⟨rfl, rfl, rfl, rfl, rfl⟩ := H
    try go_wp2
    have n0_ := mk_ (blk_drew BK214.out)
    have n1_ := mk_ (below_drew1 HB.out)
    clear BK214
    clear HB
    have BK214 := n0_
    have HB := n1_
    clear n0_ n1_
    have p217 : 0 ≤ (0 : Int) := (by omega)
    have q217 : 0 < (l2.length : Int) := of_decide_eq_true (by first | (with_reducible assumption) | assumption)
    obtain ⟨ad217, e217, hx217_0⟩ := Kd.at_int HR2.out 0 p217 q217
    have hw217_0 := hx217_0
    (try rw [show ((0 : Int)).toNat = 0 from rfl] at hw217_0)
    (try rw [show 0 * 1 = 0 from rfl] at hw217_0)
    (try rw [Addr.add_zero'] at hw217_0)
    cases e217
    have qi217 : (0 < l2.length) = True := eq_true (by omega)
    (try rw [show ((0 : Int)).toNat = 0 from rfl] at hx217_0)
    (try rw [Addr.add_zero'] at hx217_0)
    replace hx217_0 := (HB.out.cell (lc_ w _ hx217_0)).trans hx217_0
    replace p217 := eq_true p217
    replace q217 := eq_true q217
    have p218 : 0 ≤ (1 : Int) := (by omega)
    have q218 : 1 < (l2.length : Int) := of_decide_eq_true (by first | (with_reducible assumption) | assumption)
    obtain ⟨ad218, e218, hx218_0⟩ := Kd.at_int HR2.out 1 p218 q218
    have hw218_0 := hx218_0
    (try rw [show ((1 : Int)).toNat = 1 from rfl] at hw218_0)
    (try rw [show 1 * 1 = 1 from rfl] at hw218_0)
    (try simp only [Nat.reduceMul, Nat.reduceEqDiff, Go.Addr.add, ↓reduceIte] at hw218_0)
    obtain rfl : ad217 = ad218 := (by injection e218)
    (try simp only [show (1 : Int).toNat = 1 from rfl, Nat.reduceMul, Nat.reduceEqDiff, Go.Addr.add, ↓reduceIte] at hx218_0)
    have qi218 : (1 < l2.length) = True := eq_true (by omega)
    (try rw [show ((1 : Int)).toNat = 1 from rfl] at hx218_0)
    replace hx218_0 := (HB.out.cell (lc_ w _ hx218_0)).trans hx218_0
    replace p218 := eq_true p218
    replace q218 := eq_true q218
    obtain ⟨i087, hi087, _, hsz87, _⟩ := info_parts info5
    obtain ⟨A87, hcut87, hA87, hC87⟩ := print_mid_of (P := Try.prog) (Value.int .u8) 0 22 5 .i64 .i64 Try.underlying22 hi087 hsz87 (some ad217) c2 l2 3 (wrap64 ((l2.length : Int) - 2)) (by omega) (by first | omega | exact of_decide_eq_true (by first | (with_reducible assumption) | assumption)) (of_decide_eq_true (by first | (with_reducible assumption) | assumption)) HC2.out
    have HR222 := mk_ (Kd.C_of_reads (h1 := fun _ => rfl) (hA87 _ (Kd.reads_of_C HR2.out)))
    have HC222 := mk_ hC87
    clear hA87 hC87 hi087 hsz87
    refine start_ (n := 19) (S := fun w' => w'.cell? ad217 = some (.int .u8 (rd l2 0)) ∧ w'.cell? ⟨ad217.block, ad217.off + 1, none⟩ = some (.int .u8 (rd l2 1))) (ds := []) #[F_, F_, F_, F_, F_, F_, F_, F_, F_, F_, F_, F_, F_, F_, F_, F_, F_, F_, F_] (by kernel_rfl) rfl rfl ⟨((HB.out.cell (lc_ w _ hw217_0)).trans hw217_0), ((HB.out.cell (lc_ w _ hw218_0)).trans hw218_0)⟩ (fun hHeld => ?_); refine with_tabW spec_MailFrom.tab3 spec_MailFrom.bits3 (fun HT_ HW_ => ?_)
    generalize wc.drew = w86 at BK214 HB HR222 hx217_0 hx218_0 hHeld ⊢
    refine pure_ (i := 0) (N := some 23) (v := ?_) (a' := ?_) #[T_, F_, F_, F_, F_, F_, F_, F_, F_, F_, F_, F_, F_, F_, F_, F_, F_, F_, F_] rfl rfl (any_of HT_.out (by kernel_rfl)) (fun _ _ _ h => h) (Or.inl ⟨by rfl, ?_⟩) ?_ ?_
    rotate_left
    ·intro w'
     go_simp
     with_reducible rfl
    rotate_left
    ·simp only [Act.put, la_, lz_, ls_, i64_w, i32_w]
     rfl
    refine pure_ (i := 1) (N := some 24) (v := ?_) (a' := ?_) #[T_, T_, F_, F_, F_, F_, F_, F_, F_, F_, F_, F_, F_, F_, F_, F_, F_, F_, F_] rfl rfl (any_of HT_.out (by kernel_rfl)) (fun _ _ _ h => h) (Or.inl ⟨by rfl, ?_⟩) ?_ ?_
    rotate_left
    ·intro w'
     go_simp
     with_reducible rfl
    rotate_left
    ·simp only [Act.put, la_, lz_, ls_, i64_w, i32_w]
     rfl
    refine pure_ (i := 2) (N := some 25) (v := ?_) (a' := ?_) #[T_, T_, T_, F_, F_, F_, F_, F_, F_, F_, F_, F_, F_, F_, F_, F_, F_, F_, F_] rfl rfl (any_of HT_.out (by kernel_rfl)) (fun _ _ _ h => h) (Or.inl ⟨by rfl, ?_⟩) ?_ ?_
    rotate_left
    ·intro w'
     go_simp
     with_reducible rfl
    rotate_left
    ·simp only [Act.put, la_, lz_, ls_, i64_w, i32_w]
     rfl
    refine pure_ (i := 5) (N := some 28) (v := ?_) (a' := ?_) #[T_, T_, T_, F_, F_, T_, F_, F_, F_, F_, F_, F_, F_, F_, F_, F_, F_, F_, F_] rfl rfl (any_of HT_.out (by kernel_rfl)) (fun _ _ _ h => h) (Or.inl ⟨by rfl, ?_⟩) ?_ ?_
    rotate_left
    ·intro w'
     go_simp
     with_reducible rfl
    rotate_left
    ·simp only [Act.put, la_, lz_, ls_, i64_w, i32_w]
     rfl
    refine pure_ (i := 6) (N := some 29) (v := ?_) (a' := ?_) #[T_, T_, T_, F_, F_, T_, T_, F_, F_, F_, F_, F_, F_, F_, F_, F_, F_, F_, F_] rfl rfl (any_of HT_.out (by kernel_rfl)) (fun _ _ _ h => h) (Or.inl ⟨by rfl, ?_⟩) ?_ ?_
    rotate_left
    ·intro w'
     go_simp
     with_reducible rfl
    rotate_left
    ·simp only [Act.put, la_, lz_, ls_, i64_w, i32_w]
     rfl
    refine pure_ (i := 10) (N := some 33) (v := ?_) (a' := ?_) #[T_, T_, T_, F_, F_, T_, T_, F_, F_, F_, T_, F_, F_, F_, F_, F_, F_, F_, F_] rfl rfl (any_of HT_.out (by kernel_rfl)) (fun _ _ _ h => h) (Or.inl ⟨by rfl, ?_⟩) ?_ ?_
    rotate_left
    ·intro w'
     go_simp
     with_reducible rfl
    rotate_left
    ·simp only [Act.put, la_, lz_, ls_, i64_w, i32_w]
     rfl
    refine pure_ (i := 11) (N := some 34) (v := ?_) (a' := ?_) #[T_, T_, T_, F_, F_, T_, T_, F_, F_, F_, T_, T_, F_, F_, F_, F_, F_, F_, F_] rfl rfl (any_of HT_.out (by kernel_rfl)) (fun _ _ _ h => h) (Or.inl ⟨by rfl, ?_⟩) ?_ ?_
    rotate_left
    ·intro w'
     go_simp
     with_reducible rfl
    rotate_left
    ·simp only [Act.put, la_, lz_, ls_, i64_w, i32_w]
     rfl
    refine pure_ (i := 12) (N := some 35) (v := ?_) (a' := ?_) #[T_, T_, T_, F_, F_, T_, T_, F_, F_, F_, T_, T_, T_, F_, F_, F_, F_, F_, F_] rfl rfl (any_of HT_.out (by kernel_rfl)) (fun _ _ _ h => h) (Or.inl ⟨by rfl, ?_⟩) ?_ ?_
    rotate_left
    ·intro w'
     go_simp
     with_reducible rfl
    rotate_left
    ·simp only [Act.put, la_, lz_, ls_, i64_w, i32_w]
     rfl
    refine pure_ (i := 13) (N := some 36) (v := ?_) (a' := ?_) #[T_, T_, T_, F_, F_, T_, T_, F_, F_, F_, T_, T_, T_, T_, F_, F_, F_, F_, F_] rfl rfl (any_of HT_.out (by kernel_rfl)) (fun _ _ _ h => h) (Or.inl ⟨by rfl, ?_⟩) ?_ ?_
    rotate_left
    ·intro w'
     go_simp
     with_reducible rfl
    rotate_left
    ·simp only [Act.put, la_, lz_, ls_, i64_w, i32_w]
     rfl
    refine pure_ (i := 14) (N := some 37) (v := ?_) (a' := ?_) #[T_, T_, T_, F_, F_, T_, T_, F_, F_, F_, T_, T_, T_, T_, T_, F_, F_, F_, F_] rfl rfl (any_of HT_.out (by kernel_rfl)) (fun _ _ _ h => h) (Or.inl ⟨by rfl, ?_⟩) ?_ ?_
    rotate_left
    ·intro w'
     go_simp
     with_reducible rfl
    rotate_left
    ·simp only [Act.put, la_, lz_, ls_, i64_w, i32_w]
     rfl
    refine take_ (i := 3) (N := some 26) (v := ?_) (a' := ?_) #[T_, T_, T_, T_, F_, T_, T_, F_, F_, F_, T_, T_, T_, T_, T_, F_, F_, F_, F_] rfl rfl (take_ofW HT_.out HW_.out (by kernel_rfl)) (fun _ _ _ h => h) (Or.inl ⟨by rfl, ?_⟩) hHeld ?_ ?_
    rotate_left
    ·rintro w' ⟨s0, s1⟩
     go_simp
     with_reducible rfl
    rotate_left
    ·simp only [Act.put, la_, lz_, ls_, i64_w, i32_w]
     rfl
    refine pure_ (i := 4) (N := some 27) (v := ?_) (a' := ?_) #[T_, T_, T_, T_, T_, T_, T_, F_, F_, F_, T_, T_, T_, T_, T_, F_, F_, F_, F_] rfl rfl (any_of HT_.out (by kernel_rfl)) (fun _ _ _ h => h) (Or.inl ⟨by rfl, ?_⟩) ?_ ?_
    rotate_left
    ·intro w'
     go_simp
     with_reducible rfl
    rotate_left
    ·simp only [Act.put, la_, lz_, ls_, i64_w, i32_w]
     rfl
    refine take_ (i := 7) (N := some 30) (v := ?_) (a' := ?_) #[T_, T_, T_, T_, T_, T_, T_, T_, F_, F_, T_, T_, T_, T_, T_, F_, F_, F_, F_] rfl rfl (take_ofW HT_.out HW_.out (by kernel_rfl)) (fun _ _ _ h => h) (Or.inl ⟨by rfl, ?_⟩) hHeld ?_ ?_
    rotate_left
    ·rintro w' ⟨s0, s1⟩
     go_simp
     with_reducible rfl
    rotate_left
    ·simp only [Act.put, la_, lz_, ls_, i64_w, i32_w]
     rfl
    refine pure_ (i := 8) (N := some 31) (v := ?_) (a' := ?_) #[T_, T_, T_, T_, T_, T_, T_, T_, T_, F_, T_, T_, T_, T_, T_, F_, F_, F_, F_] rfl rfl (any_of HT_.out (by kernel_rfl)) (fun _ _ _ h => h) (Or.inl ⟨by rfl, ?_⟩) ?_ ?_
    rotate_left
    ·intro w'
     go_simp
     with_reducible rfl
    rotate_left
    ·simp only [Act.put, la_, lz_, ls_, i64_w, i32_w]
     rfl
    refine join_ (σ := Value × Value × Nat) 1 #[T_, T_, T_, T_, T_, T_, T_, T_, T_, T_, T_, T_, T_, T_, T_, T_, T_, T_, F_] (fun s_ => [(32, s_.1), (38, s_.2.1), (8, .pointer (some ⟨s_.2.2, 0, none⟩)), (39, .agg #[.int .i64 a0, .int .i64 (wrap64 (rd l2 0)), .int .i64 (wrap64 (rd l2 1)), s_.2.1])]) (fun s_ w' => (w'.cell? ad217 = some (.int .u8 (rd l2 0)) ∧ w'.cell? ⟨ad217.block, ad217.off + 1, none⟩ = some (.int .u8 (rd l2 1))) ∧ (Kd.R (Kd.int .u8) 5 w' w.heap.size (fun _ => True) s_.2.1 y223) ∧ (w'.heap[gb214]? = some (.cells #[.int .i64 0, .int .i64 0, .int .i64 0, .slice none 0 0] 27 (0, 0))) ∧ (w'.heap[s_.2.2]? = some (.cells #[.int .i64 0, .int .i64 0, .int .i64 0, .slice none 0 0] 27 (0, 0))) ∧ (w.heap.size ≤ s_.2.2) ∧ (w.heap.size ≤ s_.2.2) ∧ (gb214 ≠ s_.2.2) ∧ (s_.2.2 ≠ gb214) ∧ (Below w.heap.size w w')) ?_ ?_
    rotate_left
    ·intro hCont
     refine two_ (i := 9) (j := 17) (Ni := some 32) (Nj := some 8) #[T_, T_, T_, T_, T_, T_, T_, T_, T_, T_, T_, T_, T_, T_, T_, F_, F_, F_, F_] #[T_, T_, T_, T_, T_, T_, T_, T_, T_, F_, T_, T_, T_, T_, T_, F_, F_, T_, F_] rfl rfl rfl rfl (two_of HT_.out (by kernel_rfl)) (by decide) (by decide) (fun K hK => ?_) (fun K hK => ?_)
     ·skip
      refine Kd.R_lit_step (Kd.int .u8) _ 5 ?hg (N := 32) ?hd (xs := ([] : List Int)) (inner := []) (ok := fun _ => True) (okp := fun _ => True) ?hr ?hp (fun _ hk => hk) trivial (Below.refl _ _) (Nat.le_refl _) (by simp) ?_; (case hd => rfl); (case hg => rfl); (case hr => first | (go_simp; done) | (go_simp; rfl)); (case hp => exact (Reps.none _ _))
      intro v220 w88 ho89 hb hg_ hnew_
      clear hg_ hnew_
      (first | rw [← Ny219.out] at ho89 | (simp only [Int.reduceToNat] at ho89; rw [← Ny219.out] at ho89))
      have n0_ := mk_ (Kd.R_lower ho89 (below_size (us_ HB.out)))
      have n1_ := mk_ (blk_below (u_ BK214.out) hb)
      have n2_ := mk_ (below_step (us_ HB.out) hb)
      clear BK214
      clear HB
      have HO221 := n0_
      have BK214 := n1_
      have HB := n2_
      clear n0_ n1_ n2_
      clear hb ho89
      refine hK.out _ _ ⟨((HB.out.cell (lc_ w _ hw217_0)).trans hw217_0), ((HB.out.cell (lc_ w _ hw218_0)).trans hw218_0)⟩ (fun hHeld => ?_)
      clear hK K
      refine norm_ (a' := ?_) ?_ ?_
      rotate_left
      ·show Act.put _ (some 32) _ = _
       simp only [Act.put, la_, lz_, ls_, i64_w, i32_w]
       rfl
      refine two_ (i := 15) (j := 17) (Ni := some 38) (Nj := some 8) #[T_, T_, T_, T_, T_, T_, T_, T_, T_, T_, T_, T_, T_, T_, T_, T_, F_, F_, F_] #[T_, T_, T_, T_, T_, T_, T_, T_, T_, T_, T_, T_, T_, T_, T_, F_, F_, T_, F_] rfl rfl rfl rfl (two_of HT_.out (by kernel_rfl)) (by decide) (by decide) (fun K hK => ?_) (fun K hK => ?_)
      ·skip
       refine Kd.R_append_rows_step (Kd.int .u8) (w0 := w) w.heap.size (by rfl) (.tmp 32) (.tmp 37) 22 5 (.int .u8 0) 1 rfl Try.underlying22 info5 rfl (by decide) (by omega) v220 y219 ((l2.take ((wrap64 ((l2.length : Int) - 2)) : Int).toNat).drop 3) _ _ _ (fun _ => True) (fun _ => False) rfl rfl ?aO ?aR (fun _ _ h => h) (fun _ h => h.elim) ?aF ?aB ?aS ?aL ?_
       (case aR => first | (have e_ := (Kd.C_below HR222.out HB.out); rw [show ((l2.take ((wrap64 ((l2.length : Int) - 2)) : Int).toNat).drop 3).length = ((wrap64 ((l2.length : Int) - 2)).toNat - 3) from (by rw [List.length_drop, List.length_take]; have h_ : ((wrap64 ((l2.length : Int) - 2)) : Int) ≤ (l2.length : Int) := of_decide_eq_true (by first | (with_reducible assumption) | assumption); omega)] at e_; exact e_) | (rw [← show ((l2.take ((wrap64 ((l2.length : Int) - 2)) : Int).toNat).drop 3).length = ((wrap64 ((l2.length : Int) - 2)).toNat - 3) from (by rw [List.length_drop, List.length_take]; have h_ : ((wrap64 ((l2.length : Int) - 2)) : Int) ≤ (l2.length : Int) := of_decide_eq_true (by first | (with_reducible assumption) | assumption); omega)]; repeat (first | exact (Kd.C_below HR222.out HB.out) | (with_reducible refine Kd.C_alloc ?_ _) | (with_reducible refine Kd.C_drewN ?_ _) | (with_reducible refine Kd.C_drew ?_))) | (repeat (first | exact (Kd.C_below HR222.out HB.out) | (with_reducible refine Kd.C_alloc ?_ _) | (with_reducible refine Kd.C_drewN ?_ _) | (with_reducible refine Kd.C_drew ?_))))
       (case aB => exact (us_ HB.out))
       (case aF => exact (fun _ _ => trivial))
       (case aO => exact (Kd.ur_ HO221.out))
       (case aS => exact (below_size (us_ HB.out)))
       (case aL => have := LMc16.out; have hlx_ := (show ((l2.take ((wrap64 ((l2.length : Int) - 2)) : Int).toNat).drop 3).length = ((wrap64 ((l2.length : Int) - 2)).toNat - 3) from (by rw [List.length_drop, List.length_take]; have h_ : ((wrap64 ((l2.length : Int) - 2)) : Int) ≤ (l2.length : Int) := of_decide_eq_true (by first | (with_reducible assumption) | assumption); omega)); omega)
       intro v224 w90 ho hb hg hat
       rw [← Ny223.out] at ho
       have n0_ := mk_ (blk_grown (g := gb214) (o := .cells #[.int .i64 0, .int .i64 0, .int .i64 0, .slice none 0 0] 27 (0, 0)) (u_ BK214.out) hg (Kd.R_ne HO221.out BK214.out (by decide)))
       have n1_ := mk_ (hb)
       have n2_ := mk_ (ho)
       clear BK214
       clear HB
       clear HO221
       have BK214 := n0_
       have HB := n1_
       have HO225 := n2_
       clear n0_ n1_ n2_
       clear ho hb hg hat
       obtain ⟨Ao91, co91, eo91⟩ := Kd.R_slice HO225.out
       (first | subst eo91 | (injection eo91 with f1_ f2_ f3_; have f4_ := f1_.symm; have f5_ := f3_.symm; clear f1_ f2_ f3_; subst f4_; subst f5_))
       refine hK.out _ _ ⟨((HB.out.cell (lc_ w _ hw217_0)).trans hw217_0), ((HB.out.cell (lc_ w _ hw218_0)).trans hw218_0)⟩ (fun hHeld => ?_)
       clear hK K
       refine norm_ (a' := ?_) ?_ ?_
       rotate_left
       ·show Act.put _ (some 38) _ = _
        simp only [Act.put, la_, lz_, ls_, i64_w, i32_w]
        rfl
       refine pure_ (i := 16) (N := some 39) (v := ?_) (a' := ?_) #[T_, T_, T_, T_, T_, T_, T_, T_, T_, T_, T_, T_, T_, T_, T_, T_, T_, F_, F_] rfl rfl (any_of HT_.out (by kernel_rfl)) (fun _ _ _ h => h) (Or.inl ⟨by rfl, ?_⟩) ?_ ?_
       rotate_left
       ·intro w'
        go_simp
        with_reducible rfl
       rotate_left
       ·simp only [Act.put, la_, lz_, ls_, i64_w, i32_w]
        rfl
       refine one_ (i := 17) (N := some 8) #[T_, T_, T_, T_, T_, T_, T_, T_, T_, T_, T_, T_, T_, T_, T_, T_, T_, T_, F_] rfl rfl (one_of HT_.out (by kernel_rfl)) (by decide) (fun K hK => ?_)
       refine box_step ?hg (N := 8) ?hd (cs := #[.int .i64 0, .int .i64 0, .int .i64 0, .slice none 0 0]) (t := 27) ?hr ?_; (case hd => rfl); (case hg => rfl); (case hr => first | (go_simp; done) | (go_simp; rfl))
       intro gb226 hg w92 hbox hb
       have n0_ := mk_ (Kd.R_below (Kd.ur_ HO225.out) hb)
       have n1_ := mk_ (blk_below (u_ BK214.out) hb)
       have n2_ := mk_ (below_step (us_ HB.out) hb)
       have n3_ := mk_ (hbox)
       have n4_ := mk_ ((by rw [hg]; exact (below_size (us_ HB.out)) : w.heap.size ≤ gb226))
       have n5_ := mk_ ((by rw [hg]; exact (below_size (us_ HB.out)) : w.heap.size ≤ gb226))
       have n6_ := mk_ ((by rw [hg]; exact Nat.ne_of_lt (blk_lt (u_ BK214.out)) : gb214 ≠ gb226))
       have n7_ := mk_ ((by rw [hg]; exact Nat.ne_of_gt (blk_lt (u_ BK214.out)) : gb226 ≠ gb214))
       clear HO225
       clear BK214
       clear HB
       have HO225 := n0_
       have BK214 := n1_
       have HB := n2_
       have BK226 := n3_
       have GW226 := n4_
       have GE226 := ge_ n5_.out
       have NB214_226 := nq_ n6_.out
       have NB226_214 := nq_ n7_.out
       clear n0_ n1_ n2_ n3_ n4_ n5_ n6_ n7_
       clear hb hbox hg
       refine hK.out _ _ ⟨((HB.out.cell (lc_ w _ hw217_0)).trans hw217_0), ((HB.out.cell (lc_ w _ hw218_0)).trans hw218_0)⟩ (fun hHeld => ?_)
       clear hK K
       refine norm_ (a' := ?_) ?_ ?_
       rotate_left
       ·show Act.put _ (some 8) _ = _
        simp only [Act.put, la_, lz_, ls_, i64_w, i32_w]
        rfl
       exact norm_ (by simp only [putAll, Act.put, la_, lz_, ls_]) (hCont (v220, .slice Ao91 y223.length co91, gb226) _ ⟨hHeld, (Kd.ur_ HO225.out), (u_ BK214.out), (u_ BK226.out), GW226.out, GE226.out, NB214_226.out, NB226_214.out, (us_ HB.out)⟩)
      skip
      refine box_step ?hg (N := 8) ?hd (cs := #[.int .i64 0, .int .i64 0, .int .i64 0, .slice none 0 0]) (t := 27) ?hr ?_; (case hd => rfl); (case hg => rfl); (case hr => first | (go_simp; done) | (go_simp; rfl))
      intro gb226 hg w90 hbox hb
      have n0_ := mk_ (Kd.R_below (Kd.ur_ HO221.out) hb)
      have n1_ := mk_ (blk_below (u_ BK214.out) hb)
      have n2_ := mk_ (below_step (us_ HB.out) hb)
      have n3_ := mk_ (hbox)
      have n4_ := mk_ ((by rw [hg]; exact (below_size (us_ HB.out)) : w.heap.size ≤ gb226))
      have n5_ := mk_ ((by rw [hg]; exact (below_size (us_ HB.out)) : w.heap.size ≤ gb226))
      have n6_ := mk_ ((by rw [hg]; exact Nat.ne_of_lt (blk_lt (u_ BK214.out)) : gb214 ≠ gb226))
      have n7_ := mk_ ((by rw [hg]; exact Nat.ne_of_gt (blk_lt (u_ BK214.out)) : gb226 ≠ gb214))
      clear HO221
      clear BK214
      clear HB
      have HO221 := n0_
      have BK214 := n1_
      have HB := n2_
      have BK226 := n3_
      have GW226 := n4_
      have GE226 := ge_ n5_.out
      have NB214_226 := nq_ n6_.out
      have NB226_214 := nq_ n7_.out
      clear n0_ n1_ n2_ n3_ n4_ n5_ n6_ n7_
      clear hb hbox hg
      refine hK.out _ _ ⟨((HB.out.cell (lc_ w _ hw217_0)).trans hw217_0), ((HB.out.cell (lc_ w _ hw218_0)).trans hw218_0)⟩ (fun hHeld => ?_)
      clear hK K
      refine norm_ (a' := ?_) ?_ ?_
      rotate_left
      ·show Act.put _ (some 8) _ = _
       simp only [Act.put, la_, lz_, ls_, i64_w, i32_w]
       rfl
      refine one_ (i := 15) (N := some 38) #[T_, T_, T_, T_, T_, T_, T_, T_, T_, T_, T_, T_, T_, T_, T_, T_, F_, T_, F_] rfl rfl (one_of HT_.out (by kernel_rfl)) (by decide) (fun K hK => ?_)
      refine Kd.R_append_rows_step (Kd.int .u8) (w0 := w) w.heap.size (by rfl) (.tmp 32) (.tmp 37) 22 5 (.int .u8 0) 1 rfl Try.underlying22 info5 rfl (by decide) (by omega) v220 y219 ((l2.take ((wrap64 ((l2.length : Int) - 2)) : Int).toNat).drop 3) _ _ _ (fun _ => True) (fun _ => False) rfl rfl ?aO ?aR (fun _ _ h => h) (fun _ h => h.elim) ?aF ?aB ?aS ?aL ?_
      (case aR => first | (have e_ := (Kd.C_below HR222.out HB.out); rw [show ((l2.take ((wrap64 ((l2.length : Int) - 2)) : Int).toNat).drop 3).length = ((wrap64 ((l2.length : Int) - 2)).toNat - 3) from (by rw [List.length_drop, List.length_take]; have h_ : ((wrap64 ((l2.length : Int) - 2)) : Int) ≤ (l2.length : Int) := of_decide_eq_true (by first | (with_reducible assumption) | assumption); omega)] at e_; exact e_) | (rw [← show ((l2.take ((wrap64 ((l2.length : Int) - 2)) : Int).toNat).drop 3).length = ((wrap64 ((l2.length : Int) - 2)).toNat - 3) from (by rw [List.length_drop, List.length_take]; have h_ : ((wrap64 ((l2.length : Int) - 2)) : Int) ≤ (l2.length : Int) := of_decide_eq_true (by first | (with_reducible assumption) | assumption); omega)]; repeat (first | exact (Kd.C_below HR222.out HB.out) | (with_reducible refine Kd.C_alloc ?_ _) | (with_reducible refine Kd.C_drewN ?_ _) | (with_reducible refine Kd.C_drew ?_))) | (repeat (first | exact (Kd.C_below HR222.out HB.out) | (with_reducible refine Kd.C_alloc ?_ _) | (with_reducible refine Kd.C_drewN ?_ _) | (with_reducible refine Kd.C_drew ?_))))
      (case aB => exact (us_ HB.out))
      (case aF => exact (fun _ _ => trivial))
      (case aO => exact (Kd.ur_ HO221.out))
      (case aS => exact (below_size (us_ HB.out)))
      (case aL => have := LMc16.out; have hlx_ := (show ((l2.take ((wrap64 ((l2.length : Int) - 2)) : Int).toNat).drop 3).length = ((wrap64 ((l2.length : Int) - 2)).toNat - 3) from (by rw [List.length_drop, List.length_take]; have h_ : ((wrap64 ((l2.length : Int) - 2)) : Int) ≤ (l2.length : Int) := of_decide_eq_true (by first | (with_reducible assumption) | assumption); omega)); omega)
      intro v224 w91 ho hb hg hat
      rw [← Ny223.out] at ho
      have n0_ := mk_ (blk_grown (g := gb214) (o := .cells #[.int .i64 0, .int .i64 0, .int .i64 0, .slice none 0 0] 27 (0, 0)) (u_ BK214.out) hg (Kd.R_ne HO221.out BK214.out (by decide)))
      have n1_ := mk_ (blk_grown (g := gb226) (o := .cells #[.int .i64 0, .int .i64 0, .int .i64 0, .slice none 0 0] 27 (0, 0)) (u_ BK226.out) hg (Kd.R_ne HO221.out BK226.out (by decide)))
      have n2_ := mk_ (hb)
      have n3_ := mk_ (ho)
      clear BK214
      clear BK226
      clear HB
      clear HO221
      have BK214 := n0_
      have BK226 := n1_
      have HB := n2_
      have HO225 := n3_
      clear n0_ n1_ n2_ n3_
      clear ho hb hg hat
      obtain ⟨Ao92, co92, eo92⟩ := Kd.R_slice HO225.out
      (first | subst eo92 | (injection eo92 with f1_ f2_ f3_; have f4_ := f1_.symm; have f5_ := f3_.symm; clear f1_ f2_ f3_; subst f4_; subst f5_))
      refine hK.out _ _ ⟨((HB.out.cell (lc_ w _ hw217_0)).trans hw217_0), ((HB.out.cell (lc_ w _ hw218_0)).trans hw218_0)⟩ (fun hHeld => ?_)
      clear hK K
      refine norm_ (a' := ?_) ?_ ?_
      rotate_left
      ·show Act.put _ (some 38) _ = _
       simp only [Act.put, la_, lz_, ls_, i64_w, i32_w]
       rfl
      refine pure_ (i := 16) (N := some 39) (v := ?_) (a' := ?_) #[T_, T_, T_, T_, T_, T_, T_, T_, T_, T_, T_, T_, T_, T_, T_, T_, T_, T_, F_] rfl rfl (any_of HT_.out (by kernel_rfl)) (fun _ _ _ h => h) (Or.inl ⟨by rfl, ?_⟩) ?_ ?_
      rotate_left
      ·intro w'
       go_simp
       with_reducible rfl
      rotate_left
      ·simp only [Act.put, la_, lz_, ls_, i64_w, i32_w]
       rfl
      exact norm_ (by simp only [putAll, Act.put, la_, lz_, ls_]) (hCont (v220, .slice Ao92 y223.length co92, gb226) _ ⟨hHeld, (Kd.ur_ HO225.out), (u_ BK214.out), (u_ BK226.out), GW226.out, GE226.out, NB214_226.out, NB226_214.out, (us_ HB.out)⟩)
     skip
     refine box_step ?hg (N := 8) ?hd (cs := #[.int .i64 0, .int .i64 0, .int .i64 0, .slice none 0 0]) (t := 27) ?hr ?_; (case hd => rfl); (case hg => rfl); (case hr => first | (go_simp; done) | (go_simp; rfl))
     intro gb226 hg w88 hbox hb
     have n0_ := mk_ (blk_below (u_ BK214.out) hb)
     have n1_ := mk_ (below_step (us_ HB.out) hb)
     have n2_ := mk_ (hbox)
     have n3_ := mk_ ((by rw [hg]; exact (below_size (us_ HB.out)) : w.heap.size ≤ gb226))
     have n4_ := mk_ ((by rw [hg]; exact (below_size (us_ HB.out)) : w.heap.size ≤ gb226))
     have n5_ := mk_ ((by rw [hg]; exact Nat.ne_of_lt (blk_lt (u_ BK214.out)) : gb214 ≠ gb226))
     have n6_ := mk_ ((by rw [hg]; exact Nat.ne_of_gt (blk_lt (u_ BK214.out)) : gb226 ≠ gb214))
     clear BK214
     clear HB
     have BK214 := n0_
     have HB := n1_
     have BK226 := n2_
     have GW226 := n3_
     have GE226 := ge_ n4_.out
     have NB214_226 := nq_ n5_.out
     have NB226_214 := nq_ n6_.out
     clear n0_ n1_ n2_ n3_ n4_ n5_ n6_
     clear hb hbox hg
     refine hK.out _ _ ⟨((HB.out.cell (lc_ w _ hw217_0)).trans hw217_0), ((HB.out.cell (lc_ w _ hw218_0)).trans hw218_0)⟩ (fun hHeld => ?_)
     clear hK K
     refine norm_ (a' := ?_) ?_ ?_
     rotate_left
     ·show Act.put _ (some 8) _ = _
      simp only [Act.put, la_, lz_, ls_, i64_w, i32_w]
      rfl
     refine one_ (i := 9) (N := some 32) #[T_, T_, T_, T_, T_, T_, T_, T_, T_, T_, T_, T_, T_, T_, T_, F_, F_, T_, F_] rfl rfl (one_of HT_.out (by kernel_rfl)) (by decide) (fun K hK => ?_)
     refine Kd.R_lit_step (Kd.int .u8) _ 5 ?hg (N := 32) ?hd (xs := ([] : List Int)) (inner := []) (ok := fun _ => True) (okp := fun _ => True) ?hr ?hp (fun _ hk => hk) trivial (Below.refl _ _) (Nat.le_refl _) (by simp) ?_; (case hd => rfl); (case hg => rfl); (case hr => first | (go_simp; done) | (go_simp; rfl)); (case hp => exact (Reps.none _ _))
     intro v220 w89 ho90 hb hg_ hnew_
     clear hg_ hnew_
     (first | rw [← Ny219.out] at ho90 | (simp only [Int.reduceToNat] at ho90; rw [← Ny219.out] at ho90))
     have n0_ := mk_ (Kd.R_lower ho90 (below_size (us_ HB.out)))
     have n1_ := mk_ (blk_below (u_ BK214.out) hb)
     have n2_ := mk_ (blk_below (u_ BK226.out) hb)
     have n3_ := mk_ (below_step (us_ HB.out) hb)
     clear BK214
     clear BK226
     clear HB
     have HO221 := n0_
     have BK214 := n1_
     have BK226 := n2_
     have HB := n3_
     clear n0_ n1_ n2_ n3_
     clear hb ho90
     refine hK.out _ _ ⟨((HB.out.cell (lc_ w _ hw217_0)).trans hw217_0), ((HB.out.cell (lc_ w _ hw218_0)).trans hw218_0)⟩ (fun hHeld => ?_)
     clear hK K
     refine norm_ (a' := ?_) ?_ ?_
     rotate_left
     ·show Act.put _ (some 32) _ = _
      simp only [Act.put, la_, lz_, ls_, i64_w, i32_w]
      rfl
     refine one_ (i := 15) (N := some 38) #[T_, T_, T_, T_, T_, T_, T_, T_, T_, T_, T_, T_, T_, T_, T_, T_, F_, T_, F_] rfl rfl (one_of HT_.out (by kernel_rfl)) (by decide) (fun K hK => ?_)
     refine Kd.R_append_rows_step (Kd.int .u8) (w0 := w) w.heap.size (by rfl) (.tmp 32) (.tmp 37) 22 5 (.int .u8 0) 1 rfl Try.underlying22 info5 rfl (by decide) (by omega) v220 y219 ((l2.take ((wrap64 ((l2.length : Int) - 2)) : Int).toNat).drop 3) _ _ _ (fun _ => True) (fun _ => False) rfl rfl ?aO ?aR (fun _ _ h => h) (fun _ h => h.elim) ?aF ?aB ?aS ?aL ?_
     (case aR => first | (have e_ := (Kd.C_below HR222.out HB.out); rw [show ((l2.take ((wrap64 ((l2.length : Int) - 2)) : Int).toNat).drop 3).length = ((wrap64 ((l2.length : Int) - 2)).toNat - 3) from (by rw [List.length_drop, List.length_take]; have h_ : ((wrap64 ((l2.length : Int) - 2)) : Int) ≤ (l2.length : Int) := of_decide_eq_true (by first | (with_reducible assumption) | assumption); omega)] at e_; exact e_) | (rw [← show ((l2.take ((wrap64 ((l2.length : Int) - 2)) : Int).toNat).drop 3).length = ((wrap64 ((l2.length : Int) - 2)).toNat - 3) from (by rw [List.length_drop, List.length_take]; have h_ : ((wrap64 ((l2.length : Int) - 2)) : Int) ≤ (l2.length : Int) := of_decide_eq_true (by first | (with_reducible assumption) | assumption); omega)]; repeat (first | exact (Kd.C_below HR222.out HB.out) | (with_reducible refine Kd.C_alloc ?_ _) | (with_reducible refine Kd.C_drewN ?_ _) | (with_reducible refine Kd.C_drew ?_))) | (repeat (first | exact (Kd.C_below HR222.out HB.out) | (with_reducible refine Kd.C_alloc ?_ _) | (with_reducible refine Kd.C_drewN ?_ _) | (with_reducible refine Kd.C_drew ?_))))
     (case aB => exact (us_ HB.out))
     (case aF => exact (fun _ _ => trivial))
     (case aO => exact (Kd.ur_ HO221.out))
     (case aS => exact (below_size (us_ HB.out)))
     (case aL => have := LMc16.out; have hlx_ := (show ((l2.take ((wrap64 ((l2.length : Int) - 2)) : Int).toNat).drop 3).length = ((wrap64 ((l2.length : Int) - 2)).toNat - 3) from (by rw [List.length_drop, List.length_take]; have h_ : ((wrap64 ((l2.length : Int) - 2)) : Int) ≤ (l2.length : Int) := of_decide_eq_true (by first | (with_reducible assumption) | assumption); omega)); omega)
     intro v224 w91 ho hb hg hat
     rw [← Ny223.out] at ho
     have n0_ := mk_ (blk_grown (g := gb214) (o := .cells #[.int .i64 0, .int .i64 0, .int .i64 0, .slice none 0 0] 27 (0, 0)) (u_ BK214.out) hg (Kd.R_ne HO221.out BK214.out (by decide)))
     have n1_ := mk_ (blk_grown (g := gb226) (o := .cells #[.int .i64 0, .int .i64 0, .int .i64 0, .slice none 0 0] 27 (0, 0)) (u_ BK226.out) hg (Kd.R_ne HO221.out BK226.out (by decide)))
     have n2_ := mk_ (hb)
     have n3_ := mk_ (ho)
     clear BK214
     clear BK226
     clear HB
     clear HO221
     have BK214 := n0_
     have BK226 := n1_
     have HB := n2_
     have HO225 := n3_
     clear n0_ n1_ n2_ n3_
     clear ho hb hg hat
     obtain ⟨Ao92, co92, eo92⟩ := Kd.R_slice HO225.out
     (first | subst eo92 | (injection eo92 with f1_ f2_ f3_; have f4_ := f1_.symm; have f5_ := f3_.symm; clear f1_ f2_ f3_; subst f4_; subst f5_))
     refine hK.out _ _ ⟨((HB.out.cell (lc_ w _ hw217_0)).trans hw217_0), ((HB.out.cell (lc_ w _ hw218_0)).trans hw218_0)⟩ (fun hHeld => ?_)
     clear hK K
     refine norm_ (a' := ?_) ?_ ?_
     rotate_left
     ·show Act.put _ (some 38) _ = _
      simp only [Act.put, la_, lz_, ls_, i64_w, i32_w]
      rfl
     refine pure_ (i := 16) (N := some 39) (v := ?_) (a' := ?_) #[T_, T_, T_, T_, T_, T_, T_, T_, T_, T_, T_, T_, T_, T_, T_, T_, T_, T_, F_] rfl rfl (any_of HT_.out (by kernel_rfl)) (fun _ _ _ h => h) (Or.inl ⟨by rfl, ?_⟩) ?_ ?_
     rotate_left
     ·intro w'
      go_simp
      with_reducible rfl
     rotate_left
     ·simp only [Act.put, la_, lz_, ls_, i64_w, i32_w]
      rfl
     exact norm_ (by simp only [putAll, Act.put, la_, lz_, ls_]) (hCont (v220, .slice Ao92 y223.length co92, gb226) _ ⟨hHeld, (Kd.ur_ HO225.out), (u_ BK214.out), (u_ BK226.out), GW226.out, GE226.out, NB214_226.out, NB226_214.out, (us_ HB.out)⟩)
    rintro ⟨v220, v224, gb226⟩ w93 ⟨hS_, h0_, h1_, h2_, h3_, h4_, h5_, h6_, h7_⟩
    have n0_ : Aside0 (Kd.R (Kd.int .u8) 5 w93 w.heap.size (fun _ => True) v224 y223) := ⟨h0_⟩
    have n1_ : Aside0 (w93.heap[gb214]? = some (.cells #[.int .i64 0, .int .i64 0, .int .i64 0, .slice none 0 0] 27 (0, 0))) := ⟨h1_⟩
    have n2_ : Aside0 (w93.heap[gb226]? = some (.cells #[.int .i64 0, .int .i64 0, .int .i64 0, .slice none 0 0] 27 (0, 0))) := ⟨h2_⟩
    have n3_ : Aside0 (w.heap.size ≤ gb226) := ⟨h3_⟩
    have n4_ : Aside0 (w.heap.size ≤ gb226) := ⟨h4_⟩
    have n5_ : Aside0 (gb214 ≠ gb226) := ⟨h5_⟩
    have n6_ : Aside0 (gb226 ≠ gb214) := ⟨h6_⟩
    have n7_ : Aside0 (Below w.heap.size w w93) := ⟨h7_⟩
    clear BK214
    clear HB
    clear h0_ h1_ h2_ h3_ h4_ h5_ h6_ h7_
    have HO225 := n0_
    have BK214 := n1_
    have BK226 := n2_
    have GW226 := n3_
    have GE226 := ge_ n4_.out
    have NB214_226 := nq_ n5_.out
    have NB226_214 := nq_ n6_.out
    have HB := n7_
    clear n0_ n1_ n2_ n3_ n4_ n5_ n6_ n7_
    have hHeld : w93.cell? ad217 = some (.int .u8 (rd l2 0)) ∧ w93.cell? ⟨ad217.block, ad217.off + 1, none⟩ = some (.int .u8 (rd l2 1)) := hS_
    obtain ⟨Ao94, co94, eo94⟩ := Kd.R_slice HO225.out
    (first | subst eo94 | (injection eo94 with f1_ f2_ f3_; have f4_ := f1_.symm; have f5_ := f3_.symm; clear f1_ f2_ f3_; subst f4_; subst f5_))
    refine norm_ (a' := ?_) ?_ ?_
    rotate_left
    ·simp only [putAll, Act.put, la_, lz_, ls_]
     rfl
    refine one_ (i := 18) (N := none) #[T_, T_, T_, T_, T_, T_, T_, T_, T_, T_, T_, T_, T_, T_, T_, T_, T_, T_, T_] rfl rfl (one_of HT_.out (by kernel_rfl)) (by decide) (fun K hK => ?_)
    have hs95 : w93.cell? ⟨gb226, 0, none⟩ = some (.int .i64 0) := (blk_cell BK226.out 0).trans rfl
    have hfs95 := blk_frozen BK226.out 0
    have hns95_0 := NB214_226.out
    have hms95_0 := NB226_214.out
    have hs96 : w93.cell? ⟨gb226, 1, none⟩ = some (.int .i64 0) := (blk_cell BK226.out 1).trans rfl
    have hfs96 := blk_frozen BK226.out 1
    have hns96_0 := NB214_226.out
    have hms96_0 := NB226_214.out
    have hs97 : w93.cell? ⟨gb226, 2, none⟩ = some (.int .i64 0) := (blk_cell BK226.out 2).trans rfl
    have hfs97 := blk_frozen BK226.out 2
    have hns97_0 := NB214_226.out
    have hms97_0 := NB226_214.out
    have hs98 : w93.cell? ⟨gb226, 3, none⟩ = some (.slice none 0 0) := (blk_cell BK226.out 3).trans rfl
    have hfs98 := blk_frozen BK226.out 3
    have hns98_0 := NB214_226.out
    have hms98_0 := NB226_214.out
    refine skip_ (w1 := ?_) (by rfl) rfl ?_ ?_
    rotate_left
    ·go_simp
     rfl
    refine hK.out _ _ ⟨((cell_far (p := ⟨gb226, _, none⟩) (by first | exact (ne1_ (by have := lc_ _ _ hw217_0; first | rwa [add_block] at this | exact this) GW226.out) | (rw [add_block]; exact (ne1_ (by have := lc_ _ _ hw217_0; first | rwa [add_block] at this | exact this) GW226.out)) | (show (Addr.add _ _).block ≠ _; rw [add_block]; exact (ne1_ (by have := lc_ _ _ hw217_0; first | rwa [add_block] at this | exact this) GW226.out)) | (dsimp only; exact (ne1_ (by have := lc_ _ _ hw217_0; first | rwa [add_block] at this | exact this) GW226.out))) _).trans (((cell_far (p := ⟨gb226, _, none⟩) (by first | exact (ne1_ (by have := lc_ _ _ hw217_0; first | rwa [add_block] at this | exact this) GW226.out) | (rw [add_block]; exact (ne1_ (by have := lc_ _ _ hw217_0; first | rwa [add_block] at this | exact this) GW226.out)) | (show (Addr.add _ _).block ≠ _; rw [add_block]; exact (ne1_ (by have := lc_ _ _ hw217_0; first | rwa [add_block] at this | exact this) GW226.out)) | (dsimp only; exact (ne1_ (by have := lc_ _ _ hw217_0; first | rwa [add_block] at this | exact this) GW226.out))) _).trans (((cell_far (p := ⟨gb226, _, none⟩) (by first | exact (ne1_ (by have := lc_ _ _ hw217_0; first | rwa [add_block] at this | exact this) GW226.out) | (rw [add_block]; exact (ne1_ (by have := lc_ _ _ hw217_0; first | rwa [add_block] at this | exact this) GW226.out)) | (show (Addr.add _ _).block ≠ _; rw [add_block]; exact (ne1_ (by have := lc_ _ _ hw217_0; first | rwa [add_block] at this | exact this) GW226.out)) | (dsimp only; exact (ne1_ (by have := lc_ _ _ hw217_0; first | rwa [add_block] at this | exact this) GW226.out))) _).trans (((cell_far (p := ⟨gb226, _, none⟩) (by first | exact (ne1_ (by have := lc_ _ _ hw217_0; first | rwa [add_block] at this | exact this) GW226.out) | (rw [add_block]; exact (ne1_ (by have := lc_ _ _ hw217_0; first | rwa [add_block] at this | exact this) GW226.out)) | (show (Addr.add _ _).block ≠ _; rw [add_block]; exact (ne1_ (by have := lc_ _ _ hw217_0; first | rwa [add_block] at this | exact this) GW226.out)) | (dsimp only; exact (ne1_ (by have := lc_ _ _ hw217_0; first | rwa [add_block] at this | exact this) GW226.out))) _).trans (hHeld.1)))))))), ((cell_far (p := ⟨gb226, _, none⟩) (by first | exact (ne1_ (by have := lc_ _ _ hw218_0; first | rwa [add_block] at this | exact this) GW226.out) | (rw [add_block]; exact (ne1_ (by have := lc_ _ _ hw218_0; first | rwa [add_block] at this | exact this) GW226.out)) | (show (Addr.add _ _).block ≠ _; rw [add_block]; exact (ne1_ (by have := lc_ _ _ hw218_0; first | rwa [add_block] at this | exact this) GW226.out)) | (dsimp only; exact (ne1_ (by have := lc_ _ _ hw218_0; first | rwa [add_block] at this | exact this) GW226.out))) _).trans (((cell_far (p := ⟨gb226, _, none⟩) (by first | exact (ne1_ (by have := lc_ _ _ hw218_0; first | rwa [add_block] at this | exact this) GW226.out) | (rw [add_block]; exact (ne1_ (by have := lc_ _ _ hw218_0; first | rwa [add_block] at this | exact this) GW226.out)) | (show (Addr.add _ _).block ≠ _; rw [add_block]; exact (ne1_ (by have := lc_ _ _ hw218_0; first | rwa [add_block] at this | exact this) GW226.out)) | (dsimp only; exact (ne1_ (by have := lc_ _ _ hw218_0; first | rwa [add_block] at this | exact this) GW226.out))) _).trans (((cell_far (p := ⟨gb226, _, none⟩) (by first | exact (ne1_ (by have := lc_ _ _ hw218_0; first | rwa [add_block] at this | exact this) GW226.out) | (rw [add_block]; exact (ne1_ (by have := lc_ _ _ hw218_0; first | rwa [add_block] at this | exact this) GW226.out)) | (show (Addr.add _ _).block ≠ _; rw [add_block]; exact (ne1_ (by have := lc_ _ _ hw218_0; first | rwa [add_block] at this | exact this) GW226.out)) | (dsimp only; exact (ne1_ (by have := lc_ _ _ hw218_0; first | rwa [add_block] at this | exact this) GW226.out))) _).trans (((cell_far (p := ⟨gb226, _, none⟩) (by first | exact (ne1_ (by have := lc_ _ _ hw218_0; first | rwa [add_block] at this | exact this) GW226.out) | (rw [add_block]; exact (ne1_ (by have := lc_ _ _ hw218_0; first | rwa [add_block] at this | exact this) GW226.out)) | (show (Addr.add _ _).block ≠ _; rw [add_block]; exact (ne1_ (by have := lc_ _ _ hw218_0; first | rwa [add_block] at this | exact this) GW226.out)) | (dsimp only; exact (ne1_ (by have := lc_ _ _ hw218_0; first | rwa [add_block] at this | exact this) GW226.out))) _).trans (hHeld.2))))))))⟩ (fun hHeld => ?_)
    clear hK K
    refine done_ (done_of HT_.out (by kernel_rfl)) ?_
    try go_wp2
    have n0_ : Aside0 (Kd.R (Kd.int .u8) 5 ((((w93.setCell ⟨gb226, 0, none⟩ (.int .i64 a0)).setCell ⟨gb226, 1, none⟩ (.int .i64 (wrap64 (rd l2 0)))).setCell ⟨gb226, 2, none⟩ (.int .i64 (wrap64 (rd l2 1)))).setCell ⟨gb226, 3, none⟩ (.slice Ao94 y223.length co94)) w.heap.size (fun _ => True) (.slice Ao94 y223.length co94) y223) := ⟨by (with_reducible repeat (first | apply Kd.R_alloc | apply Kd.R_drewN | apply Kd.R_drew)); exact Kd.R_mono (Kd.R_far (p := ⟨gb226, 3, none⟩) (Kd.R_far (p := ⟨gb226, 2, none⟩) (Kd.R_far (p := ⟨gb226, 1, none⟩) (Kd.R_far (p := ⟨gb226, 0, none⟩) (Kd.R_types HO225.out BK226.out (by decide)) (fun _ hk => hk.2) (.int .i64 a0)) (fun _ hk => hk.2) (.int .i64 (wrap64 (rd l2 0)))) (fun _ hk => hk.2) (.int .i64 (wrap64 (rd l2 1)))) (fun _ hk => hk.2) (.slice Ao94 y223.length co94)) (fun _ hk => trivial)⟩
    have n1_ : Aside0 (((((w93.setCell ⟨gb226, 0, none⟩ (.int .i64 a0)).setCell ⟨gb226, 1, none⟩ (.int .i64 (wrap64 (rd l2 0)))).setCell ⟨gb226, 2, none⟩ (.int .i64 (wrap64 (rd l2 1)))).setCell ⟨gb226, 3, none⟩ (.slice Ao94 y223.length co94)).heap[gb214]? = some (.cells #[.int .i64 0, .int .i64 0, .int .i64 0, .slice none 0 0] 27 (0, 0))) := ⟨uf_ BK214.out⟩
    have n2_ : Aside0 (((((w93.setCell ⟨gb226, 0, none⟩ (.int .i64 a0)).setCell ⟨gb226, 1, none⟩ (.int .i64 (wrap64 (rd l2 0)))).setCell ⟨gb226, 2, none⟩ (.int .i64 (wrap64 (rd l2 1)))).setCell ⟨gb226, 3, none⟩ (.slice Ao94 y223.length co94)).heap[gb226]? = some (.cells #[.int .i64 a0, .int .i64 (wrap64 (rd l2 0)), .int .i64 (wrap64 (rd l2 1)), .slice Ao94 y223.length co94] 27 (0, 0))) := ⟨by (with_reducible repeat (first | refine bn_ ?_ _ | refine bw_ ?_ | refine ba_ ?_ _)); refine blk_put (cs := #[.int .i64 a0, .int .i64 (wrap64 (rd l2 0)), .int .i64 (wrap64 (rd l2 1)), .slice none 0 0]) ?_ 3 _ rfl; (with_reducible repeat (first | refine bn_ ?_ _ | refine bw_ ?_ | refine ba_ ?_ _)); refine blk_put (cs := #[.int .i64 a0, .int .i64 (wrap64 (rd l2 0)), .int .i64 0, .slice none 0 0]) ?_ 2 _ rfl; (with_reducible repeat (first | refine bn_ ?_ _ | refine bw_ ?_ | refine ba_ ?_ _)); refine blk_put (cs := #[.int .i64 a0, .int .i64 0, .int .i64 0, .slice none 0 0]) ?_ 1 _ rfl; (with_reducible repeat (first | refine bn_ ?_ _ | refine bw_ ?_ | refine ba_ ?_ _)); refine blk_put (cs := #[.int .i64 0, .int .i64 0, .int .i64 0, .slice none 0 0]) ?_ 0 _ rfl; (with_reducible repeat (first | refine bn_ ?_ _ | refine bw_ ?_ | refine ba_ ?_ _)); exact BK226.out⟩
    have n3_ : Aside0 (Below w.heap.size w ((((w93.setCell ⟨gb226, 0, none⟩ (.int .i64 a0)).setCell ⟨gb226, 1, none⟩ (.int .i64 (wrap64 (rd l2 0)))).setCell ⟨gb226, 2, none⟩ (.int .i64 (wrap64 (rd l2 1)))).setCell ⟨gb226, 3, none⟩ (.slice Ao94 y223.length co94))) := ⟨us_ HB.out⟩
    (try clear HO225)
    (try clear BK214)
    (try clear BK226)
    (try clear HB)
    generalize ((((w93.setCell ⟨gb226, 0, none⟩ (.int .i64 a0)).setCell ⟨gb226, 1, none⟩ (.int .i64 (wrap64 (rd l2 0)))).setCell ⟨gb226, 2, none⟩ (.int .i64 (wrap64 (rd l2 1)))).setCell ⟨gb226, 3, none⟩ (.slice Ao94 y223.length co94)) = w99 at n0_ n1_ n2_ n3_ ⊢
    have HO225 := n0_
    have BK214 := n1_
    have BK226 := n2_
    have HB := n3_
    clear n0_ n1_ n2_ n3_
    have n0_ := mk_ (Kd.R_drew HO225.out)
    have n1_ := mk_ (blk_drew BK214.out)
    have n2_ := mk_ (blk_drew BK226.out)
    have n3_ := mk_ (below_drew1 HB.out)
    clear HO225
    clear BK214
    clear BK226
    clear HB
    have HO225 := n0_
    have BK214 := n1_
    have BK226 := n2_
    have HB := n3_
    clear n0_ n1_ n2_ n3_
    refine start_ (n := 29) (S := fun w' => w'.cell? ⟨gb226, 0, none⟩ = some (.int .i64 a0) ∧ w'.cell? ⟨gb226, 1, none⟩ = some (.int .i64 (wrap64 (rd l2 0))) ∧ w'.cell? ⟨gb226, 2, none⟩ = some (.int .i64 (wrap64 (rd l2 1))) ∧ w'.cell? ⟨gb226, 3, none⟩ = some (.slice Ao94 y223.length co94)) (ds := []) #[F_, F_, F_, F_, F_, F_, F_, F_, F_, F_, F_, F_, F_, F_, F_, F_, F_, F_, F_, F_, F_, F_, F_, F_, F_, F_, F_, F_, F_] (by kernel_rfl) rfl rfl ⟨(blk_cell BK226.out 0).trans rfl, (blk_cell BK226.out 1).trans rfl, (blk_cell BK226.out 2).trans rfl, (blk_cell BK226.out 3).trans rfl⟩ (fun hHeld => ?_); refine with_tabW spec_MailFrom.tab4 spec_MailFrom.bits4 (fun HT_ HW_ => ?_)
    generalize w99.drew = w100 at HO225 BK214 BK226 HB hHeld ⊢
    refine take_ (i := 0) (N := some 40) (v := ?_) (a' := ?_) #[T_, F_, F_, F_, F_, F_, F_, F_, F_, F_, F_, F_, F_, F_, F_, F_, F_, F_, F_, F_, F_, F_, F_, F_, F_, F_, F_, F_, F_] rfl rfl (take_ofW HT_.out HW_.out (by kernel_rfl)) (fun _ _ _ h => h) (Or.inl ⟨by rfl, ?_⟩) hHeld ?_ ?_
    rotate_left
    ·rintro w' ⟨s0, s1, s2, s3⟩
     go_simp
     with_reducible rfl
    rotate_left
    ·simp only [Act.put, la_, lz_, ls_, i64_w, i32_w]
     rfl
    refine one_ (i := 1) (N := some 41) #[T_, T_, F_, F_, F_, F_, F_, F_, F_, F_, F_, F_, F_, F_, F_, F_, F_, F_, F_, F_, F_, F_, F_, F_, F_, F_, F_, F_, F_] rfl rfl (one_of HT_.out (by kernel_rfl)) (by decide) (fun K hK => ?_)
    refine goes_ Try.func34 (by kernel_rfl) rfl #[.agg #[.int .i64 a0, .int .i64 (wrap64 (rd l2 0)), .int .i64 (wrap64 (rd l2 1)), .slice Ao94 y223.length co94]] (by rfl) rfl rfl (by (try simp only [lm_, lo_, ln_]); first | done | rfl | (simp only [List.length_drop, List.length_take]; rfl)) ?_
    with_reducible refine (spec_MailOk.calls a0 (wrap64 (rd l2 0)) (wrap64 (rd l2 1)) _ _ y223 false _ ?side1 ?side2 A17.out).mono ?_
    (case side1 => repeat (first | exact (Kd.R_reads' HO225.out).2.2 | (with_reducible refine Kd.C_alloc ?_ _) | (with_reducible refine Kd.C_drewN ?_ _) | (with_reducible refine Kd.C_drew ?_)))
    (case side2 => exact (Kd.R_reads' HO225.out).2.1)
    rintro e w101 ⟨rfl, hb⟩
    refine ⟨_, rfl, ?_⟩
    have n0_ := mk_ (Kd.R_below (Kd.ur_ HO225.out) hb)
    have n1_ := mk_ (blk_below (u_ BK214.out) hb)
    have n2_ := mk_ (blk_below (u_ BK226.out) hb)
    have n3_ := mk_ (below_step (us_ HB.out) hb)
    clear HO225
    clear BK214
    clear BK226
    clear HB
    have HO225 := n0_
    have BK214 := n1_
    have BK226 := n2_
    have HB := n3_
    clear n0_ n1_ n2_ n3_
    (try clear hb)
    (try clear hb2)
    (try clear hk)
    (try clear hi)
    refine hK.out _ _ ⟨(blk_cell BK226.out 0).trans rfl, (blk_cell BK226.out 1).trans rfl, (blk_cell BK226.out 2).trans rfl, (blk_cell BK226.out 3).trans rfl⟩ (fun hHeld => ?_)
    clear hK K
    refine norm_ (a' := ?_) ?_ ?_
    rotate_left
    ·show Act.put _ (some 41) _ = _
     simp only [Act.put, la_, lz_, ls_, i64_w, i32_w]
     rfl
    refine pure_ (i := 2) (N := some 42) (v := ?_) (a' := ?_) #[T_, T_, T_, F_, F_, F_, F_, F_, F_, F_, F_, F_, F_, F_, F_, F_, F_, F_, F_, F_, F_, F_, F_, F_, F_, F_, F_, F_, F_] rfl rfl (any_of HT_.out (by kernel_rfl)) (fun _ _ _ h => h) (Or.inl ⟨by rfl, ?_⟩) ?_ ?_
    rotate_left
    ·intro w'
     go_simp
     with_reducible rfl
    rotate_left
    ·simp only [Act.put, la_, lz_, ls_, i64_w, i32_w]
     rfl
    refine pure_ (i := 3) (N := some 43) (v := ?_) (a' := ?_) #[T_, T_, T_, T_, F_, F_, F_, F_, F_, F_, F_, F_, F_, F_, F_, F_, F_, F_, F_, F_, F_, F_, F_, F_, F_, F_, F_, F_, F_] rfl rfl (any_of HT_.out (by kernel_rfl)) (fun _ _ _ h => h) (Or.inl ⟨by rfl, ?_⟩) ?_ ?_
    rotate_left
    ·intro w'
     go_simp
     with_reducible rfl
    rotate_left
    ·simp only [Act.put, la_, lz_, ls_, i64_w, i32_w]
     rfl
    refine pure_ (i := 4) (N := some 44) (v := undef) (a' := ?_) #[T_, T_, T_, T_, T_, F_, F_, F_, F_, F_, F_, F_, F_, F_, F_, F_, F_, F_, F_, F_, F_, F_, F_, F_, F_, F_, F_, F_, F_] rfl rfl (any_of HT_.out (by kernel_rfl)) (fun _ _ _ h => h) (Or.inr ⟨by rfl, rfl⟩) ?_ ?_
    rotate_left
    ·simp only [Act.put, la_, lz_, ls_, i64_w, i32_w]
     rfl
    refine pure_ (i := 5) (N := some 45) (v := undef) (a' := ?_) #[T_, T_, T_, T_, T_, T_, F_, F_, F_, F_, F_, F_, F_, F_, F_, F_, F_, F_, F_, F_, F_, F_, F_, F_, F_, F_, F_, F_, F_] rfl rfl (any_of HT_.out (by kernel_rfl)) (fun _ _ _ h => h) (Or.inr ⟨by rfl, rfl⟩) ?_ ?_
    rotate_left
    ·simp only [Act.put, la_, lz_, ls_, i64_w, i32_w]
     rfl
    refine pure_ (i := 6) (N := some 46) (v := undef) (a' := ?_) #[T_, T_, T_, T_, T_, T_, T_, F_, F_, F_, F_, F_, F_, F_, F_, F_, F_, F_, F_, F_, F_, F_, F_, F_, F_, F_, F_, F_, F_] rfl rfl (any_of HT_.out (by kernel_rfl)) (fun _ _ _ h => h) (Or.inr ⟨by rfl, rfl⟩) ?_ ?_
    rotate_left
    ·simp only [Act.put, la_, lz_, ls_, i64_w, i32_w]
     rfl
    refine pure_ (i := 7) (N := some 47) (v := undef) (a' := ?_) #[T_, T_, T_, T_, T_, T_, T_, T_, F_, F_, F_, F_, F_, F_, F_, F_, F_, F_, F_, F_, F_, F_, F_, F_, F_, F_, F_, F_, F_] rfl rfl (any_of HT_.out (by kernel_rfl)) (fun _ _ _ h => h) (Or.inr ⟨by rfl, rfl⟩) ?_ ?_
    rotate_left
    ·simp only [Act.put, la_, lz_, ls_, i64_w, i32_w]
     rfl
    refine pure_ (i := 8) (N := some 48) (v := undef) (a' := ?_) #[T_, T_, T_, T_, T_, T_, T_, T_, T_, F_, F_, F_, F_, F_, F_, F_, F_, F_, F_, F_, F_, F_, F_, F_, F_, F_, F_, F_, F_] rfl rfl (any_of HT_.out (by kernel_rfl)) (fun _ _ _ h => h) (Or.inr ⟨by rfl, rfl⟩) ?_ ?_
    rotate_left
    ·simp only [Act.put, la_, lz_, ls_, i64_w, i32_w]
     rfl
    refine pure_ (i := 9) (N := some 49) (v := undef) (a' := ?_) #[T_, T_, T_, T_, T_, T_, T_, T_, T_, T_, F_, F_, F_, F_, F_, F_, F_, F_, F_, F_, F_, F_, F_, F_, F_, F_, F_, F_, F_] rfl rfl (any_of HT_.out (by kernel_rfl)) (fun _ _ _ h => h) (Or.inr ⟨by rfl, rfl⟩) ?_ ?_
    rotate_left
    ·simp only [Act.put, la_, lz_, ls_, i64_w, i32_w]
     rfl
    refine pure_ (i := 10) (N := some 50) (v := undef) (a' := ?_) #[T_, T_, T_, T_, T_, T_, T_, T_, T_, T_, T_, F_, F_, F_, F_, F_, F_, F_, F_, F_, F_, F_, F_, F_, F_, F_, F_, F_, F_] rfl rfl (any_of HT_.out (by kernel_rfl)) (fun _ _ _ h => h) (Or.inr ⟨by rfl, rfl⟩) ?_ ?_
    rotate_left
    ·simp only [Act.put, la_, lz_, ls_, i64_w, i32_w]
     rfl
    refine pure_ (i := 11) (N := some 51) (v := undef) (a' := ?_) #[T_, T_, T_, T_, T_, T_, T_, T_, T_, T_, T_, T_, F_, F_, F_, F_, F_, F_, F_, F_, F_, F_, F_, F_, F_, F_, F_, F_, F_] rfl rfl (any_of HT_.out (by kernel_rfl)) (fun _ _ _ h => h) (Or.inr ⟨by rfl, rfl⟩) ?_ ?_
    rotate_left
    ·simp only [Act.put, la_, lz_, ls_, i64_w, i32_w]
     rfl
    refine pure_ (i := 12) (N := some 52) (v := ?_) (a' := ?_) #[T_, T_, T_, T_, T_, T_, T_, T_, T_, T_, T_, T_, T_, F_, F_, F_, F_, F_, F_, F_, F_, F_, F_, F_, F_, F_, F_, F_, F_] rfl rfl (any_of HT_.out (by kernel_rfl)) (fun _ _ _ h => h) (Or.inl ⟨by rfl, ?_⟩) ?_ ?_
    rotate_left
    ·intro w'
     go_simp
     with_reducible rfl
    rotate_left
    ·simp only [Act.put, la_, lz_, ls_, i64_w, i32_w]
     rfl
    refine pure_ (i := 13) (N := some 53) (v := ?_) (a' := ?_) #[T_, T_, T_, T_, T_, T_, T_, T_, T_, T_, T_, T_, T_, T_, F_, F_, F_, F_, F_, F_, F_, F_, F_, F_, F_, F_, F_, F_, F_] rfl rfl (any_of HT_.out (by kernel_rfl)) (fun _ _ _ h => h) (Or.inl ⟨by rfl, ?_⟩) ?_ ?_
    rotate_left
    ·intro w'
     go_simp
     with_reducible rfl
    rotate_left
    ·simp only [Act.put, la_, lz_, ls_, i64_w, i32_w]
     rfl
    refine pure_ (i := 14) (N := some 54) (v := undef) (a' := ?_) #[T_, T_, T_, T_, T_, T_, T_, T_, T_, T_, T_, T_, T_, T_, T_, F_, F_, F_, F_, F_, F_, F_, F_, F_, F_, F_, F_, F_, F_] rfl rfl (any_of HT_.out (by kernel_rfl)) (fun _ _ _ h => h) (Or.inr ⟨by rfl, rfl⟩) ?_ ?_
    rotate_left
    ·simp only [Act.put, la_, lz_, ls_, i64_w, i32_w]
     rfl
    refine pure_ (i := 15) (N := some 55) (v := undef) (a' := ?_) #[T_, T_, T_, T_, T_, T_, T_, T_, T_, T_, T_, T_, T_, T_, T_, T_, F_, F_, F_, F_, F_, F_, F_, F_, F_, F_, F_, F_, F_] rfl rfl (any_of HT_.out (by kernel_rfl)) (fun _ _ _ h => h) (Or.inr ⟨by rfl, rfl⟩) ?_ ?_
    rotate_left
    ·simp only [Act.put, la_, lz_, ls_, i64_w, i32_w]
     rfl
    refine pure_ (i := 16) (N := some 56) (v := undef) (a' := ?_) #[T_, T_, T_, T_, T_, T_, T_, T_, T_, T_, T_, T_, T_, T_, T_, T_, T_, F_, F_, F_, F_, F_, F_, F_, F_, F_, F_, F_, F_] rfl rfl (any_of HT_.out (by kernel_rfl)) (fun _ _ _ h => h) (Or.inr ⟨by rfl, rfl⟩) ?_ ?_
    rotate_left
    ·simp only [Act.put, la_, lz_, ls_, i64_w, i32_w]
     rfl
    refine pure_ (i := 17) (N := some 57) (v := undef) (a' := ?_) #[T_, T_, T_, T_, T_, T_, T_, T_, T_, T_, T_, T_, T_, T_, T_, T_, T_, T_, F_, F_, F_, F_, F_, F_, F_, F_, F_, F_, F_] rfl rfl (any_of HT_.out (by kernel_rfl)) (fun _ _ _ h => h) (Or.inr ⟨by rfl, rfl⟩) ?_ ?_
    rotate_left
    ·simp only [Act.put, la_, lz_, ls_, i64_w, i32_w]
     rfl
    refine pure_ (i := 18) (N := some 58) (v := undef) (a' := ?_) #[T_, T_, T_, T_, T_, T_, T_, T_, T_, T_, T_, T_, T_, T_, T_, T_, T_, T_, T_, F_, F_, F_, F_, F_, F_, F_, F_, F_, F_] rfl rfl (any_of HT_.out (by kernel_rfl)) (fun _ _ _ h => h) (Or.inr ⟨by rfl, rfl⟩) ?_ ?_
    rotate_left
    ·simp only [Act.put, la_, lz_, ls_, i64_w, i32_w]
     rfl
    refine pure_ (i := 19) (N := some 59) (v := undef) (a' := ?_) #[T_, T_, T_, T_, T_, T_, T_, T_, T_, T_, T_, T_, T_, T_, T_, T_, T_, T_, T_, T_, F_, F_, F_, F_, F_, F_, F_, F_, F_] rfl rfl (any_of HT_.out (by kernel_rfl)) (fun _ _ _ h => h) (Or.inr ⟨by rfl, rfl⟩) ?_ ?_
    rotate_left
    ·simp only [Act.put, la_, lz_, ls_, i64_w, i32_w]
     rfl
    refine pure_ (i := 20) (N := some 60) (v := undef) (a' := ?_) #[T_, T_, T_, T_, T_, T_, T_, T_, T_, T_, T_, T_, T_, T_, T_, T_, T_, T_, T_, T_, T_, F_, F_, F_, F_, F_, F_, F_, F_] rfl rfl (any_of HT_.out (by kernel_rfl)) (fun _ _ _ h => h) (Or.inr ⟨by rfl, rfl⟩) ?_ ?_
    rotate_left
    ·simp only [Act.put, la_, lz_, ls_, i64_w, i32_w]
     rfl
    refine pure_ (i := 21) (N := some 61) (v := undef) (a' := ?_) #[T_, T_, T_, T_, T_, T_, T_, T_, T_, T_, T_, T_, T_, T_, T_, T_, T_, T_, T_, T_, T_, T_, F_, F_, F_, F_, F_, F_, F_] rfl rfl (any_of HT_.out (by kernel_rfl)) (fun _ _ _ h => h) (Or.inr ⟨by rfl, rfl⟩) ?_ ?_
    rotate_left
    ·simp only [Act.put, la_, lz_, ls_, i64_w, i32_w]
     rfl
    refine pure_ (i := 22) (N := some 62) (v := undef) (a' := ?_) #[T_, T_, T_, T_, T_, T_, T_, T_, T_, T_, T_, T_, T_, T_, T_, T_, T_, T_, T_, T_, T_, T_, T_, F_, F_, F_, F_, F_, F_] rfl rfl (any_of HT_.out (by kernel_rfl)) (fun _ _ _ h => h) (Or.inr ⟨by rfl, rfl⟩) ?_ ?_
    rotate_left
    ·simp only [Act.put, la_, lz_, ls_, i64_w, i32_w]
     rfl
    refine pure_ (i := 23) (N := some 63) (v := undef) (a' := ?_) #[T_, T_, T_, T_, T_, T_, T_, T_, T_, T_, T_, T_, T_, T_, T_, T_, T_, T_, T_, T_, T_, T_, T_, T_, F_, F_, F_, F_, F_] rfl rfl (any_of HT_.out (by kernel_rfl)) (fun _ _ _ h => h) (Or.inr ⟨by rfl, rfl⟩) ?_ ?_
    rotate_left
    ·simp only [Act.put, la_, lz_, ls_, i64_w, i32_w]
     rfl
    refine pure_ (i := 24) (N := some 64) (v := undef) (a' := ?_) #[T_, T_, T_, T_, T_, T_, T_, T_, T_, T_, T_, T_, T_, T_, T_, T_, T_, T_, T_, T_, T_, T_, T_, T_, T_, F_, F_, F_, F_] rfl rfl (any_of HT_.out (by kernel_rfl)) (fun _ _ _ h => h) (Or.inr ⟨by rfl, rfl⟩) ?_ ?_
    rotate_left
    ·simp only [Act.put, la_, lz_, ls_, i64_w, i32_w]
     rfl
    refine pure_ (i := 25) (N := some 65) (v := undef) (a' := ?_) #[T_, T_, T_, T_, T_, T_, T_, T_, T_, T_, T_, T_, T_, T_, T_, T_, T_, T_, T_, T_, T_, T_, T_, T_, T_, T_, F_, F_, F_] rfl rfl (any_of HT_.out (by kernel_rfl)) (fun _ _ _ h => h) (Or.inr ⟨by rfl, rfl⟩) ?_ ?_
    rotate_left
    ·simp only [Act.put, la_, lz_, ls_, i64_w, i32_w]
     rfl
    refine pure_ (i := 26) (N := some 66) (v := undef) (a' := ?_) #[T_, T_, T_, T_, T_, T_, T_, T_, T_, T_, T_, T_, T_, T_, T_, T_, T_, T_, T_, T_, T_, T_, T_, T_, T_, T_, T_, F_, F_] rfl rfl (any_of HT_.out (by kernel_rfl)) (fun _ _ _ h => h) (Or.inr ⟨by rfl, rfl⟩) ?_ ?_
    rotate_left
    ·simp only [Act.put, la_, lz_, ls_, i64_w, i32_w]
     rfl
    refine pure_ (i := 27) (N := some 67) (v := undef) (a' := ?_) #[T_, T_, T_, T_, T_, T_, T_, T_, T_, T_, T_, T_, T_, T_, T_, T_, T_, T_, T_, T_, T_, T_, T_, T_, T_, T_, T_, T_, F_] rfl rfl (any_of HT_.out (by kernel_rfl)) (fun _ _ _ h => h) (Or.inr ⟨by rfl, rfl⟩) ?_ ?_
    rotate_left
    ·simp only [Act.put, la_, lz_, ls_, i64_w, i32_w]
     rfl
    refine pure_ (i := 28) (N := some 68) (v := ?_) (a' := ?_) #[T_, T_, T_, T_, T_, T_, T_, T_, T_, T_, T_, T_, T_, T_, T_, T_, T_, T_, T_, T_, T_, T_, T_, T_, T_, T_, T_, T_, T_] rfl rfl (any_of HT_.out (by kernel_rfl)) (fun _ _ _ h => h) (Or.inl ⟨by rfl, ?_⟩) ?_ ?_
    rotate_left
    ·intro w'
     go_simp
     with_reducible rfl
    rotate_left
    ·simp only [Act.put, la_, lz_, ls_, i64_w, i32_w]
     rfl
    refine done_ (done_of HT_.out (by kernel_rfl)) ?_
    have hnb102 := NB214_226.out
    have hnc102 := NB226_214.out
    obtain ⟨hcz103_0, hcz103_1, hcz103_2, hcz103_3, hfz103_0, hfz103_1, hfz103_2, hfz103_3⟩ := cells4_ BK214.out
    try go_wp2
    refine bodyPost_ret (results_ct rfl _ _ gb214 27 #[.int .i64 0, .int .i64 0, .int .i64 0, .slice none 0 0] (0, 0) _ rfl (by (with_reducible repeat (first | refine bn_ ?_ _ | refine bw_ ?_ | refine ba_ ?_ _)); refine blk_put (cs := #[.int .i64 0, .int .i64 0, .int .i64 0, .slice none 0 0]) ?_ 3 _ rfl; (with_reducible repeat (first | refine bn_ ?_ _ | refine bw_ ?_ | refine ba_ ?_ _)); refine blk_put (cs := #[.int .i64 0, .int .i64 0, .int .i64 0, .slice none 0 0]) ?_ 2 _ rfl; (with_reducible repeat (first | refine bn_ ?_ _ | refine bw_ ?_ | refine ba_ ?_ _)); refine blk_put (cs := #[.int .i64 0, .int .i64 0, .int .i64 0, .slice none 0 0]) ?_ 1 _ rfl; (with_reducible repeat (first | refine bn_ ?_ _ | refine bw_ ?_ | refine ba_ ?_ _)); refine blk_put (cs := #[.int .i64 0, .int .i64 0, .int .i64 0, .slice none 0 0]) ?_ 0 _ rfl; (with_reducible repeat (first | refine bn_ ?_ _ | refine bw_ ?_ | refine ba_ ?_ _)); exact BK214.out) Try.underlying27 rfl (by kernel_rfl)) rfl ?_
    exact ⟨_, by first | rfl | (simp [errW_none, errW_some] <;> rfl) | (simp [*, errW_none, errW_some] <;> rfl), by first | exact Kd.R_nil _ _ _ _ _ | exact Kd.N_nil _ _ _ _ _ | exact Kd.V_nil _ _ _ _ _ | exact Kd.Q_nil _ _ _ _ _ | exact Kd.S_nil _ _ _ _ _, us_ HB.out⟩
   subst c18
   have H1 : (if 2 < (l2.length : Int) then (if (wrap64 (rd l2 2)) = (y223.length : Int) then ((spec_NumberAt.f kj3 l2 (wrap64 ((l2.length : Int) - 2)) 2).bind fun t229 => (if 0 ≤ (wrap64 ((l2.length : Int) - 2)) then ((spec_l9Sum.f kj3 a0 a1 (l2.take ((wrap64 ((l2.length : Int) - 2)) : Int).toNat)).bind fun t231 => (if t229 = t231 then (some (a0, wrap64 (rd l2 0), wrap64 (rd l2 1), y223, true)) else (some (0, 0, 0, ([] : List Int), false)))) else (none))) else (some (0, 0, 0, ([] : List Int), false))) else (none)) = some (r1, r2, r3, r4, r5) := by rw [if_pos rfl] at H; exact H
   clear H
   have H := H1
   clear H1
   by_cases c19 : 2 < (l2.length : Int)
   rotate_left
   ·rw [if_neg c19] at H
    exact absurd H (by simp)
   rw [if_pos c19] at H
   have c19b0 : decide (2 < (l2.length : Int)) = true := decide_eq_true c19
   have c19b1 : decide (2 < l2.length) = true := decide_eq_true (by omega)
   clear c19
   by_cases c20 : (wrap64 (rd l2 2)) = (y223.length : Int)
   rotate_left
   ·rw [if_neg c20] at H
    have c20b0 : ((wrap64 (rd l2 2)) == (y223.length : Int)) = false := beq_eq_false_iff_ne.mpr c20
    have c20b1 : ((wrap64 (rd l2 2)) != (y223.length : Int)) = true := bne_iff_ne.mpr c20
    simp only [Option.some.injEq, Prod.mk.injEq] at H
    obtain ⟨rfl, rfl, rfl, rfl, rfl⟩ := H
    try go_wp2
    have n0_ := mk_ (blk_drew BK214.out)
    have n1_ := mk_ (below_drew1 HB.out)
    clear BK214
    clear HB
    have BK214 := n0_
    have HB := n1_
    clear n0_ n1_
    have p217 : 0 ≤ (0 : Int) := (by omega)
    have q217 : 0 < (l2.length : Int) := of_decide_eq_true (by first | (with_reducible assumption) | assumption)
    obtain ⟨ad217, e217, hx217_0⟩ := Kd.at_int HR2.out 0 p217 q217
    have hw217_0 := hx217_0
    (try rw [show ((0 : Int)).toNat = 0 from rfl] at hw217_0)
    (try rw [show 0 * 1 = 0 from rfl] at hw217_0)
    (try rw [Addr.add_zero'] at hw217_0)
    cases e217
    have qi217 : (0 < l2.length) = True := eq_true (by omega)
    (try rw [show ((0 : Int)).toNat = 0 from rfl] at hx217_0)
    (try rw [Addr.add_zero'] at hx217_0)
    replace hx217_0 := (HB.out.cell (lc_ w _ hx217_0)).trans hx217_0
    replace p217 := eq_true p217
    replace q217 := eq_true q217
    have p218 : 0 ≤ (1 : Int) := (by omega)
    have q218 : 1 < (l2.length : Int) := of_decide_eq_true (by first | (with_reducible assumption) | assumption)
    obtain ⟨ad218, e218, hx218_0⟩ := Kd.at_int HR2.out 1 p218 q218
    have hw218_0 := hx218_0
    (try rw [show ((1 : Int)).toNat = 1 from rfl] at hw218_0)
    (try rw [show 1 * 1 = 1 from rfl] at hw218_0)
    (try simp only [Nat.reduceMul, Nat.reduceEqDiff, Go.Addr.add, ↓reduceIte] at hw218_0)
    obtain rfl : ad217 = ad218 := (by injection e218)
    (try simp only [show (1 : Int).toNat = 1 from rfl, Nat.reduceMul, Nat.reduceEqDiff, Go.Addr.add, ↓reduceIte] at hx218_0)
    have qi218 : (1 < l2.length) = True := eq_true (by omega)
    (try rw [show ((1 : Int)).toNat = 1 from rfl] at hx218_0)
    replace hx218_0 := (HB.out.cell (lc_ w _ hx218_0)).trans hx218_0
    replace p218 := eq_true p218
    replace q218 := eq_true q218
    obtain ⟨i069, hi069, _, hsz69, _⟩ := info_parts info5
    obtain ⟨A69, hcut69, hA69, hC69⟩ := print_mid_of (P := Try.prog) (Value.int .u8) 0 22 5 .i64 .i64 Try.underlying22 hi069 hsz69 (some ad217) c2 l2 3 (wrap64 ((l2.length : Int) - 2)) (by omega) (by first | omega | exact of_decide_eq_true (by first | (with_reducible assumption) | assumption)) (of_decide_eq_true (by first | (with_reducible assumption) | assumption)) HC2.out
    have HR222 := mk_ (Kd.C_of_reads (h1 := fun _ => rfl) (hA69 _ (Kd.reads_of_C HR2.out)))
    have HC222 := mk_ hC69
    clear hA69 hC69 hi069 hsz69
    refine start_ (n := 19) (S := fun w' => w'.cell? ad217 = some (.int .u8 (rd l2 0)) ∧ w'.cell? ⟨ad217.block, ad217.off + 1, none⟩ = some (.int .u8 (rd l2 1))) (ds := []) #[F_, F_, F_, F_, F_, F_, F_, F_, F_, F_, F_, F_, F_, F_, F_, F_, F_, F_, F_] (by kernel_rfl) rfl rfl ⟨((HB.out.cell (lc_ w _ hw217_0)).trans hw217_0), ((HB.out.cell (lc_ w _ hw218_0)).trans hw218_0)⟩ (fun hHeld => ?_); refine with_tabW spec_MailFrom.tab3 spec_MailFrom.bits3 (fun HT_ HW_ => ?_)
    generalize wc.drew = w68 at BK214 HB HR222 hx217_0 hx218_0 hHeld ⊢
    refine pure_ (i := 0) (N := some 23) (v := ?_) (a' := ?_) #[T_, F_, F_, F_, F_, F_, F_, F_, F_, F_, F_, F_, F_, F_, F_, F_, F_, F_, F_] rfl rfl (any_of HT_.out (by kernel_rfl)) (fun _ _ _ h => h) (Or.inl ⟨by rfl, ?_⟩) ?_ ?_
    rotate_left
    ·intro w'
     go_simp
     with_reducible rfl
    rotate_left
    ·simp only [Act.put, la_, lz_, ls_, i64_w, i32_w]
     rfl
    refine pure_ (i := 1) (N := some 24) (v := ?_) (a' := ?_) #[T_, T_, F_, F_, F_, F_, F_, F_, F_, F_, F_, F_, F_, F_, F_, F_, F_, F_, F_] rfl rfl (any_of HT_.out (by kernel_rfl)) (fun _ _ _ h => h) (Or.inl ⟨by rfl, ?_⟩) ?_ ?_
    rotate_left
    ·intro w'
     go_simp
     with_reducible rfl
    rotate_left
    ·simp only [Act.put, la_, lz_, ls_, i64_w, i32_w]
     rfl
    refine pure_ (i := 2) (N := some 25) (v := ?_) (a' := ?_) #[T_, T_, T_, F_, F_, F_, F_, F_, F_, F_, F_, F_, F_, F_, F_, F_, F_, F_, F_] rfl rfl (any_of HT_.out (by kernel_rfl)) (fun _ _ _ h => h) (Or.inl ⟨by rfl, ?_⟩) ?_ ?_
    rotate_left
    ·intro w'
     go_simp
     with_reducible rfl
    rotate_left
    ·simp only [Act.put, la_, lz_, ls_, i64_w, i32_w]
     rfl
    refine pure_ (i := 5) (N := some 28) (v := ?_) (a' := ?_) #[T_, T_, T_, F_, F_, T_, F_, F_, F_, F_, F_, F_, F_, F_, F_, F_, F_, F_, F_] rfl rfl (any_of HT_.out (by kernel_rfl)) (fun _ _ _ h => h) (Or.inl ⟨by rfl, ?_⟩) ?_ ?_
    rotate_left
    ·intro w'
     go_simp
     with_reducible rfl
    rotate_left
    ·simp only [Act.put, la_, lz_, ls_, i64_w, i32_w]
     rfl
    refine pure_ (i := 6) (N := some 29) (v := ?_) (a' := ?_) #[T_, T_, T_, F_, F_, T_, T_, F_, F_, F_, F_, F_, F_, F_, F_, F_, F_, F_, F_] rfl rfl (any_of HT_.out (by kernel_rfl)) (fun _ _ _ h => h) (Or.inl ⟨by rfl, ?_⟩) ?_ ?_
    rotate_left
    ·intro w'
     go_simp
     with_reducible rfl
    rotate_left
    ·simp only [Act.put, la_, lz_, ls_, i64_w, i32_w]
     rfl
    refine pure_ (i := 10) (N := some 33) (v := ?_) (a' := ?_) #[T_, T_, T_, F_, F_, T_, T_, F_, F_, F_, T_, F_, F_, F_, F_, F_, F_, F_, F_] rfl rfl (any_of HT_.out (by kernel_rfl)) (fun _ _ _ h => h) (Or.inl ⟨by rfl, ?_⟩) ?_ ?_
    rotate_left
    ·intro w'
     go_simp
     with_reducible rfl
    rotate_left
    ·simp only [Act.put, la_, lz_, ls_, i64_w, i32_w]
     rfl
    refine pure_ (i := 11) (N := some 34) (v := ?_) (a' := ?_) #[T_, T_, T_, F_, F_, T_, T_, F_, F_, F_, T_, T_, F_, F_, F_, F_, F_, F_, F_] rfl rfl (any_of HT_.out (by kernel_rfl)) (fun _ _ _ h => h) (Or.inl ⟨by rfl, ?_⟩) ?_ ?_
    rotate_left
    ·intro w'
     go_simp
     with_reducible rfl
    rotate_left
    ·simp only [Act.put, la_, lz_, ls_, i64_w, i32_w]
     rfl
    refine pure_ (i := 12) (N := some 35) (v := ?_) (a' := ?_) #[T_, T_, T_, F_, F_, T_, T_, F_, F_, F_, T_, T_, T_, F_, F_, F_, F_, F_, F_] rfl rfl (any_of HT_.out (by kernel_rfl)) (fun _ _ _ h => h) (Or.inl ⟨by rfl, ?_⟩) ?_ ?_
    rotate_left
    ·intro w'
     go_simp
     with_reducible rfl
    rotate_left
    ·simp only [Act.put, la_, lz_, ls_, i64_w, i32_w]
     rfl
    refine pure_ (i := 13) (N := some 36) (v := ?_) (a' := ?_) #[T_, T_, T_, F_, F_, T_, T_, F_, F_, F_, T_, T_, T_, T_, F_, F_, F_, F_, F_] rfl rfl (any_of HT_.out (by kernel_rfl)) (fun _ _ _ h => h) (Or.inl ⟨by rfl, ?_⟩) ?_ ?_
    rotate_left
    ·intro w'
     go_simp
     with_reducible rfl
    rotate_left
    ·simp only [Act.put, la_, lz_, ls_, i64_w, i32_w]
     rfl
    refine pure_ (i := 14) (N := some 37) (v := ?_) (a' := ?_) #[T_, T_, T_, F_, F_, T_, T_, F_, F_, F_, T_, T_, T_, T_, T_, F_, F_, F_, F_] rfl rfl (any_of HT_.out (by kernel_rfl)) (fun _ _ _ h => h) (Or.inl ⟨by rfl, ?_⟩) ?_ ?_
    rotate_left
    ·intro w'
     go_simp
     with_reducible rfl
    rotate_left
    ·simp only [Act.put, la_, lz_, ls_, i64_w, i32_w]
     rfl
    refine take_ (i := 3) (N := some 26) (v := ?_) (a' := ?_) #[T_, T_, T_, T_, F_, T_, T_, F_, F_, F_, T_, T_, T_, T_, T_, F_, F_, F_, F_] rfl rfl (take_ofW HT_.out HW_.out (by kernel_rfl)) (fun _ _ _ h => h) (Or.inl ⟨by rfl, ?_⟩) hHeld ?_ ?_
    rotate_left
    ·rintro w' ⟨s0, s1⟩
     go_simp
     with_reducible rfl
    rotate_left
    ·simp only [Act.put, la_, lz_, ls_, i64_w, i32_w]
     rfl
    refine pure_ (i := 4) (N := some 27) (v := ?_) (a' := ?_) #[T_, T_, T_, T_, T_, T_, T_, F_, F_, F_, T_, T_, T_, T_, T_, F_, F_, F_, F_] rfl rfl (any_of HT_.out (by kernel_rfl)) (fun _ _ _ h => h) (Or.inl ⟨by rfl, ?_⟩) ?_ ?_
    rotate_left
    ·intro w'
     go_simp
     with_reducible rfl
    rotate_left
    ·simp only [Act.put, la_, lz_, ls_, i64_w, i32_w]
     rfl
    refine take_ (i := 7) (N := some 30) (v := ?_) (a' := ?_) #[T_, T_, T_, T_, T_, T_, T_, T_, F_, F_, T_, T_, T_, T_, T_, F_, F_, F_, F_] rfl rfl (take_ofW HT_.out HW_.out (by kernel_rfl)) (fun _ _ _ h => h) (Or.inl ⟨by rfl, ?_⟩) hHeld ?_ ?_
    rotate_left
    ·rintro w' ⟨s0, s1⟩
     go_simp
     with_reducible rfl
    rotate_left
    ·simp only [Act.put, la_, lz_, ls_, i64_w, i32_w]
     rfl
    refine pure_ (i := 8) (N := some 31) (v := ?_) (a' := ?_) #[T_, T_, T_, T_, T_, T_, T_, T_, T_, F_, T_, T_, T_, T_, T_, F_, F_, F_, F_] rfl rfl (any_of HT_.out (by kernel_rfl)) (fun _ _ _ h => h) (Or.inl ⟨by rfl, ?_⟩) ?_ ?_
    rotate_left
    ·intro w'
     go_simp
     with_reducible rfl
    rotate_left
    ·simp only [Act.put, la_, lz_, ls_, i64_w, i32_w]
     rfl
    refine join_ (σ := Value × Value × Nat) 1 #[T_, T_, T_, T_, T_, T_, T_, T_, T_, T_, T_, T_, T_, T_, T_, T_, T_, T_, F_] (fun s_ => [(32, s_.1), (38, s_.2.1), (8, .pointer (some ⟨s_.2.2, 0, none⟩)), (39, .agg #[.int .i64 a0, .int .i64 (wrap64 (rd l2 0)), .int .i64 (wrap64 (rd l2 1)), s_.2.1])]) (fun s_ w' => (w'.cell? ad217 = some (.int .u8 (rd l2 0)) ∧ w'.cell? ⟨ad217.block, ad217.off + 1, none⟩ = some (.int .u8 (rd l2 1))) ∧ (Kd.R (Kd.int .u8) 5 w' w.heap.size (fun _ => True) s_.2.1 y223) ∧ (w'.heap[gb214]? = some (.cells #[.int .i64 0, .int .i64 0, .int .i64 0, .slice none 0 0] 27 (0, 0))) ∧ (w'.heap[s_.2.2]? = some (.cells #[.int .i64 0, .int .i64 0, .int .i64 0, .slice none 0 0] 27 (0, 0))) ∧ (w.heap.size ≤ s_.2.2) ∧ (w.heap.size ≤ s_.2.2) ∧ (gb214 ≠ s_.2.2) ∧ (s_.2.2 ≠ gb214) ∧ (Below w.heap.size w w')) ?_ ?_
    rotate_left
    ·intro hCont
     refine two_ (i := 9) (j := 17) (Ni := some 32) (Nj := some 8) #[T_, T_, T_, T_, T_, T_, T_, T_, T_, T_, T_, T_, T_, T_, T_, F_, F_, F_, F_] #[T_, T_, T_, T_, T_, T_, T_, T_, T_, F_, T_, T_, T_, T_, T_, F_, F_, T_, F_] rfl rfl rfl rfl (two_of HT_.out (by kernel_rfl)) (by decide) (by decide) (fun K hK => ?_) (fun K hK => ?_)
     ·skip
      refine Kd.R_lit_step (Kd.int .u8) _ 5 ?hg (N := 32) ?hd (xs := ([] : List Int)) (inner := []) (ok := fun _ => True) (okp := fun _ => True) ?hr ?hp (fun _ hk => hk) trivial (Below.refl _ _) (Nat.le_refl _) (by simp) ?_; (case hd => rfl); (case hg => rfl); (case hr => first | (go_simp; done) | (go_simp; rfl)); (case hp => exact (Reps.none _ _))
      intro v220 w70 ho71 hb hg_ hnew_
      clear hg_ hnew_
      (first | rw [← Ny219.out] at ho71 | (simp only [Int.reduceToNat] at ho71; rw [← Ny219.out] at ho71))
      have n0_ := mk_ (Kd.R_lower ho71 (below_size (us_ HB.out)))
      have n1_ := mk_ (blk_below (u_ BK214.out) hb)
      have n2_ := mk_ (below_step (us_ HB.out) hb)
      clear BK214
      clear HB
      have HO221 := n0_
      have BK214 := n1_
      have HB := n2_
      clear n0_ n1_ n2_
      clear hb ho71
      refine hK.out _ _ ⟨((HB.out.cell (lc_ w _ hw217_0)).trans hw217_0), ((HB.out.cell (lc_ w _ hw218_0)).trans hw218_0)⟩ (fun hHeld => ?_)
      clear hK K
      refine norm_ (a' := ?_) ?_ ?_
      rotate_left
      ·show Act.put _ (some 32) _ = _
       simp only [Act.put, la_, lz_, ls_, i64_w, i32_w]
       rfl
      refine two_ (i := 15) (j := 17) (Ni := some 38) (Nj := some 8) #[T_, T_, T_, T_, T_, T_, T_, T_, T_, T_, T_, T_, T_, T_, T_, T_, F_, F_, F_] #[T_, T_, T_, T_, T_, T_, T_, T_, T_, T_, T_, T_, T_, T_, T_, F_, F_, T_, F_] rfl rfl rfl rfl (two_of HT_.out (by kernel_rfl)) (by decide) (by decide) (fun K hK => ?_) (fun K hK => ?_)
      ·skip
       refine Kd.R_append_rows_step (Kd.int .u8) (w0 := w) w.heap.size (by rfl) (.tmp 32) (.tmp 37) 22 5 (.int .u8 0) 1 rfl Try.underlying22 info5 rfl (by decide) (by omega) v220 y219 ((l2.take ((wrap64 ((l2.length : Int) - 2)) : Int).toNat).drop 3) _ _ _ (fun _ => True) (fun _ => False) rfl rfl ?aO ?aR (fun _ _ h => h) (fun _ h => h.elim) ?aF ?aB ?aS ?aL ?_
       (case aR => first | (have e_ := (Kd.C_below HR222.out HB.out); rw [show ((l2.take ((wrap64 ((l2.length : Int) - 2)) : Int).toNat).drop 3).length = ((wrap64 ((l2.length : Int) - 2)).toNat - 3) from (by rw [List.length_drop, List.length_take]; have h_ : ((wrap64 ((l2.length : Int) - 2)) : Int) ≤ (l2.length : Int) := of_decide_eq_true (by first | (with_reducible assumption) | assumption); omega)] at e_; exact e_) | (rw [← show ((l2.take ((wrap64 ((l2.length : Int) - 2)) : Int).toNat).drop 3).length = ((wrap64 ((l2.length : Int) - 2)).toNat - 3) from (by rw [List.length_drop, List.length_take]; have h_ : ((wrap64 ((l2.length : Int) - 2)) : Int) ≤ (l2.length : Int) := of_decide_eq_true (by first | (with_reducible assumption) | assumption); omega)]; repeat (first | exact (Kd.C_below HR222.out HB.out) | (with_reducible refine Kd.C_alloc ?_ _) | (with_reducible refine Kd.C_drewN ?_ _) | (with_reducible refine Kd.C_drew ?_))) | (repeat (first | exact (Kd.C_below HR222.out HB.out) | (with_reducible refine Kd.C_alloc ?_ _) | (with_reducible refine Kd.C_drewN ?_ _) | (with_reducible refine Kd.C_drew ?_))))
       (case aB => exact (us_ HB.out))
       (case aF => exact (fun _ _ => trivial))
       (case aO => exact (Kd.ur_ HO221.out))
       (case aS => exact (below_size (us_ HB.out)))
       (case aL => have := LMc16.out; have hlx_ := (show ((l2.take ((wrap64 ((l2.length : Int) - 2)) : Int).toNat).drop 3).length = ((wrap64 ((l2.length : Int) - 2)).toNat - 3) from (by rw [List.length_drop, List.length_take]; have h_ : ((wrap64 ((l2.length : Int) - 2)) : Int) ≤ (l2.length : Int) := of_decide_eq_true (by first | (with_reducible assumption) | assumption); omega)); omega)
       intro v224 w72 ho hb hg hat
       rw [← Ny223.out] at ho
       have n0_ := mk_ (blk_grown (g := gb214) (o := .cells #[.int .i64 0, .int .i64 0, .int .i64 0, .slice none 0 0] 27 (0, 0)) (u_ BK214.out) hg (Kd.R_ne HO221.out BK214.out (by decide)))
       have n1_ := mk_ (hb)
       have n2_ := mk_ (ho)
       clear BK214
       clear HB
       clear HO221
       have BK214 := n0_
       have HB := n1_
       have HO225 := n2_
       clear n0_ n1_ n2_
       clear ho hb hg hat
       obtain ⟨Ao73, co73, eo73⟩ := Kd.R_slice HO225.out
       (first | subst eo73 | (injection eo73 with f1_ f2_ f3_; have f4_ := f1_.symm; have f5_ := f3_.symm; clear f1_ f2_ f3_; subst f4_; subst f5_))
       refine hK.out _ _ ⟨((HB.out.cell (lc_ w _ hw217_0)).trans hw217_0), ((HB.out.cell (lc_ w _ hw218_0)).trans hw218_0)⟩ (fun hHeld => ?_)
       clear hK K
       refine norm_ (a' := ?_) ?_ ?_
       rotate_left
       ·show Act.put _ (some 38) _ = _
        simp only [Act.put, la_, lz_, ls_, i64_w, i32_w]
        rfl
       refine pure_ (i := 16) (N := some 39) (v := ?_) (a' := ?_) #[T_, T_, T_, T_, T_, T_, T_, T_, T_, T_, T_, T_, T_, T_, T_, T_, T_, F_, F_] rfl rfl (any_of HT_.out (by kernel_rfl)) (fun _ _ _ h => h) (Or.inl ⟨by rfl, ?_⟩) ?_ ?_
       rotate_left
       ·intro w'
        go_simp
        with_reducible rfl
       rotate_left
       ·simp only [Act.put, la_, lz_, ls_, i64_w, i32_w]
        rfl
       refine one_ (i := 17) (N := some 8) #[T_, T_, T_, T_, T_, T_, T_, T_, T_, T_, T_, T_, T_, T_, T_, T_, T_, T_, F_] rfl rfl (one_of HT_.out (by kernel_rfl)) (by decide) (fun K hK => ?_)
       refine box_step ?hg (N := 8) ?hd (cs := #[.int .i64 0, .int .i64 0, .int .i64 0, .slice none 0 0]) (t := 27) ?hr ?_; (case hd => rfl); (case hg => rfl); (case hr => first | (go_simp; done) | (go_simp; rfl))
       intro gb226 hg w74 hbox hb
       have n0_ := mk_ (Kd.R_below (Kd.ur_ HO225.out) hb)
       have n1_ := mk_ (blk_below (u_ BK214.out) hb)
       have n2_ := mk_ (below_step (us_ HB.out) hb)
       have n3_ := mk_ (hbox)
       have n4_ := mk_ ((by rw [hg]; exact (below_size (us_ HB.out)) : w.heap.size ≤ gb226))
       have n5_ := mk_ ((by rw [hg]; exact (below_size (us_ HB.out)) : w.heap.size ≤ gb226))
       have n6_ := mk_ ((by rw [hg]; exact Nat.ne_of_lt (blk_lt (u_ BK214.out)) : gb214 ≠ gb226))
       have n7_ := mk_ ((by rw [hg]; exact Nat.ne_of_gt (blk_lt (u_ BK214.out)) : gb226 ≠ gb214))
       clear HO225
       clear BK214
       clear HB
       have HO225 := n0_
       have BK214 := n1_
       have HB := n2_
       have BK226 := n3_
       have GW226 := n4_
       have GE226 := ge_ n5_.out
       have NB214_226 := nq_ n6_.out
       have NB226_214 := nq_ n7_.out
       clear n0_ n1_ n2_ n3_ n4_ n5_ n6_ n7_
       clear hb hbox hg
       refine hK.out _ _ ⟨((HB.out.cell (lc_ w _ hw217_0)).trans hw217_0), ((HB.out.cell (lc_ w _ hw218_0)).trans hw218_0)⟩ (fun hHeld => ?_)
       clear hK K
       refine norm_ (a' := ?_) ?_ ?_
       rotate_left
       ·show Act.put _ (some 8) _ = _
        simp only [Act.put, la_, lz_, ls_, i64_w, i32_w]
        rfl
       exact norm_ (by simp only [putAll, Act.put, la_, lz_, ls_]) (hCont (v220, .slice Ao73 y223.length co73, gb226) _ ⟨hHeld, (Kd.ur_ HO225.out), (u_ BK214.out), (u_ BK226.out), GW226.out, GE226.out, NB214_226.out, NB226_214.out, (us_ HB.out)⟩)
      skip
      refine box_step ?hg (N := 8) ?hd (cs := #[.int .i64 0, .int .i64 0, .int .i64 0, .slice none 0 0]) (t := 27) ?hr ?_; (case hd => rfl); (case hg => rfl); (case hr => first | (go_simp; done) | (go_simp; rfl))
      intro gb226 hg w72 hbox hb
      have n0_ := mk_ (Kd.R_below (Kd.ur_ HO221.out) hb)
      have n1_ := mk_ (blk_below (u_ BK214.out) hb)
      have n2_ := mk_ (below_step (us_ HB.out) hb)
      have n3_ := mk_ (hbox)
      have n4_ := mk_ ((by rw [hg]; exact (below_size (us_ HB.out)) : w.heap.size ≤ gb226))
      have n5_ := mk_ ((by rw [hg]; exact (below_size (us_ HB.out)) : w.heap.size ≤ gb226))
      have n6_ := mk_ ((by rw [hg]; exact Nat.ne_of_lt (blk_lt (u_ BK214.out)) : gb214 ≠ gb226))
      have n7_ := mk_ ((by rw [hg]; exact Nat.ne_of_gt (blk_lt (u_ BK214.out)) : gb226 ≠ gb214))
      clear HO221
      clear BK214
      clear HB
      have HO221 := n0_
      have BK214 := n1_
      have HB := n2_
      have BK226 := n3_
      have GW226 := n4_
      have GE226 := ge_ n5_.out
      have NB214_226 := nq_ n6_.out
      have NB226_214 := nq_ n7_.out
      clear n0_ n1_ n2_ n3_ n4_ n5_ n6_ n7_
      clear hb hbox hg
      refine hK.out _ _ ⟨((HB.out.cell (lc_ w _ hw217_0)).trans hw217_0), ((HB.out.cell (lc_ w _ hw218_0)).trans hw218_0)⟩ (fun hHeld => ?_)
      clear hK K
      refine norm_ (a' := ?_) ?_ ?_
      rotate_left
      ·show Act.put _ (some 8) _ = _
       simp only [Act.put, la_, lz_, ls_, i64_w, i32_w]
       rfl
      refine one_ (i := 15) (N := some 38) #[T_, T_, T_, T_, T_, T_, T_, T_, T_, T_, T_, T_, T_, T_, T_, T_, F_, T_, F_] rfl rfl (one_of HT_.out (by kernel_rfl)) (by decide) (fun K hK => ?_)
      refine Kd.R_append_rows_step (Kd.int .u8) (w0 := w) w.heap.size (by rfl) (.tmp 32) (.tmp 37) 22 5 (.int .u8 0) 1 rfl Try.underlying22 info5 rfl (by decide) (by omega) v220 y219 ((l2.take ((wrap64 ((l2.length : Int) - 2)) : Int).toNat).drop 3) _ _ _ (fun _ => True) (fun _ => False) rfl rfl ?aO ?aR (fun _ _ h => h) (fun _ h => h.elim) ?aF ?aB ?aS ?aL ?_
      (case aR => first | (have e_ := (Kd.C_below HR222.out HB.out); rw [show ((l2.take ((wrap64 ((l2.length : Int) - 2)) : Int).toNat).drop 3).length = ((wrap64 ((l2.length : Int) - 2)).toNat - 3) from (by rw [List.length_drop, List.length_take]; have h_ : ((wrap64 ((l2.length : Int) - 2)) : Int) ≤ (l2.length : Int) := of_decide_eq_true (by first | (with_reducible assumption) | assumption); omega)] at e_; exact e_) | (rw [← show ((l2.take ((wrap64 ((l2.length : Int) - 2)) : Int).toNat).drop 3).length = ((wrap64 ((l2.length : Int) - 2)).toNat - 3) from (by rw [List.length_drop, List.length_take]; have h_ : ((wrap64 ((l2.length : Int) - 2)) : Int) ≤ (l2.length : Int) := of_decide_eq_true (by first | (with_reducible assumption) | assumption); omega)]; repeat (first | exact (Kd.C_below HR222.out HB.out) | (with_reducible refine Kd.C_alloc ?_ _) | (with_reducible refine Kd.C_drewN ?_ _) | (with_reducible refine Kd.C_drew ?_))) | (repeat (first | exact (Kd.C_below HR222.out HB.out) | (with_reducible refine Kd.C_alloc ?_ _) | (with_reducible refine Kd.C_drewN ?_ _) | (with_reducible refine Kd.C_drew ?_))))
      (case aB => exact (us_ HB.out))
      (case aF => exact (fun _ _ => trivial))
      (case aO => exact (Kd.ur_ HO221.out))
      (case aS => exact (below_size (us_ HB.out)))
      (case aL => have := LMc16.out; have hlx_ := (show ((l2.take ((wrap64 ((l2.length : Int) - 2)) : Int).toNat).drop 3).length = ((wrap64 ((l2.length : Int) - 2)).toNat - 3) from (by rw [List.length_drop, List.length_take]; have h_ : ((wrap64 ((l2.length : Int) - 2)) : Int) ≤ (l2.length : Int) := of_decide_eq_true (by first | (with_reducible assumption) | assumption); omega)); omega)
      intro v224 w73 ho hb hg hat
      rw [← Ny223.out] at ho
      have n0_ := mk_ (blk_grown (g := gb214) (o := .cells #[.int .i64 0, .int .i64 0, .int .i64 0, .slice none 0 0] 27 (0, 0)) (u_ BK214.out) hg (Kd.R_ne HO221.out BK214.out (by decide)))
      have n1_ := mk_ (blk_grown (g := gb226) (o := .cells #[.int .i64 0, .int .i64 0, .int .i64 0, .slice none 0 0] 27 (0, 0)) (u_ BK226.out) hg (Kd.R_ne HO221.out BK226.out (by decide)))
      have n2_ := mk_ (hb)
      have n3_ := mk_ (ho)
      clear BK214
      clear BK226
      clear HB
      clear HO221
      have BK214 := n0_
      have BK226 := n1_
      have HB := n2_
      have HO225 := n3_
      clear n0_ n1_ n2_ n3_
      clear ho hb hg hat
      obtain ⟨Ao74, co74, eo74⟩ := Kd.R_slice HO225.out
      (first | subst eo74 | (injection eo74 with f1_ f2_ f3_; have f4_ := f1_.symm; have f5_ := f3_.symm; clear f1_ f2_ f3_; subst f4_; subst f5_))
      refine hK.out _ _ ⟨((HB.out.cell (lc_ w _ hw217_0)).trans hw217_0), ((HB.out.cell (lc_ w _ hw218_0)).trans hw218_0)⟩ (fun hHeld => ?_)
      clear hK K
      refine norm_ (a' := ?_) ?_ ?_
      rotate_left
      ·show Act.put _ (some 38) _ = _
       simp only [Act.put, la_, lz_, ls_, i64_w, i32_w]
       rfl
      refine pure_ (i := 16) (N := some 39) (v := ?_) (a' := ?_) #[T_, T_, T_, T_, T_, T_, T_, T_, T_, T_, T_, T_, T_, T_, T_, T_, T_, T_, F_] rfl rfl (any_of HT_.out (by kernel_rfl)) (fun _ _ _ h => h) (Or.inl ⟨by rfl, ?_⟩) ?_ ?_
      rotate_left
      ·intro w'
       go_simp
       with_reducible rfl
      rotate_left
      ·simp only [Act.put, la_, lz_, ls_, i64_w, i32_w]
       rfl
      exact norm_ (by simp only [putAll, Act.put, la_, lz_, ls_]) (hCont (v220, .slice Ao74 y223.length co74, gb226) _ ⟨hHeld, (Kd.ur_ HO225.out), (u_ BK214.out), (u_ BK226.out), GW226.out, GE226.out, NB214_226.out, NB226_214.out, (us_ HB.out)⟩)
     skip
     refine box_step ?hg (N := 8) ?hd (cs := #[.int .i64 0, .int .i64 0, .int .i64 0, .slice none 0 0]) (t := 27) ?hr ?_; (case hd => rfl); (case hg => rfl); (case hr => first | (go_simp; done) | (go_simp; rfl))
     intro gb226 hg w70 hbox hb
     have n0_ := mk_ (blk_below (u_ BK214.out) hb)
     have n1_ := mk_ (below_step (us_ HB.out) hb)
     have n2_ := mk_ (hbox)
     have n3_ := mk_ ((by rw [hg]; exact (below_size (us_ HB.out)) : w.heap.size ≤ gb226))
     have n4_ := mk_ ((by rw [hg]; exact (below_size (us_ HB.out)) : w.heap.size ≤ gb226))
     have n5_ := mk_ ((by rw [hg]; exact Nat.ne_of_lt (blk_lt (u_ BK214.out)) : gb214 ≠ gb226))
     have n6_ := mk_ ((by rw [hg]; exact Nat.ne_of_gt (blk_lt (u_ BK214.out)) : gb226 ≠ gb214))
     clear BK214
     clear HB
     have BK214 := n0_
     have HB := n1_
     have BK226 := n2_
     have GW226 := n3_
     have GE226 := ge_ n4_.out
     have NB214_226 := nq_ n5_.out
     have NB226_214 := nq_ n6_.out
     clear n0_ n1_ n2_ n3_ n4_ n5_ n6_
     clear hb hbox hg
     refine hK.out _ _ ⟨((HB.out.cell (lc_ w _ hw217_0)).trans hw217_0), ((HB.out.cell (lc_ w _ hw218_0)).trans hw218_0)⟩ (fun hHeld => ?_)
     clear hK K
     refine norm_ (a' := ?_) ?_ ?_
     rotate_left
     ·show Act.put _ (some 8) _ = _
      simp only [Act.put, la_, lz_, ls_, i64_w, i32_w]
      rfl
     refine one_ (i := 9) (N := some 32) #[T_, T_, T_, T_, T_, T_, T_, T_, T_, T_, T_, T_, T_, T_, T_, F_, F_, T_, F_] rfl rfl (one_of HT_.out (by kernel_rfl)) (by decide) (fun K hK => ?_)
     refine Kd.R_lit_step (Kd.int .u8) _ 5 ?hg (N := 32) ?hd (xs := ([] : List Int)) (inner := []) (ok := fun _ => True) (okp := fun _ => True) ?hr ?hp (fun _ hk => hk) trivial (Below.refl _ _) (Nat.le_refl _) (by simp) ?_; (case hd => rfl); (case hg => rfl); (case hr => first | (go_simp; done) | (go_simp; rfl)); (case hp => exact (Reps.none _ _))
     intro v220 w71 ho72 hb hg_ hnew_
     clear hg_ hnew_
     (first | rw [← Ny219.out] at ho72 | (simp only [Int.reduceToNat] at ho72; rw [← Ny219.out] at ho72))
     have n0_ := mk_ (Kd.R_lower ho72 (below_size (us_ HB.out)))
     have n1_ := mk_ (blk_below (u_ BK214.out) hb)
     have n2_ := mk_ (blk_below (u_ BK226.out) hb)
     have n3_ := mk_ (below_step (us_ HB.out) hb)
     clear BK214
     clear BK226
     clear HB
     have HO221 := n0_
     have BK214 := n1_
     have BK226 := n2_
     have HB := n3_
     clear n0_ n1_ n2_ n3_
     clear hb ho72
     refine hK.out _ _ ⟨((HB.out.cell (lc_ w _ hw217_0)).trans hw217_0), ((HB.out.cell (lc_ w _ hw218_0)).trans hw218_0)⟩ (fun hHeld => ?_)
     clear hK K
     refine norm_ (a' := ?_) ?_ ?_
     rotate_left
     ·show Act.put _ (some 32) _ = _
      simp only [Act.put, la_, lz_, ls_, i64_w, i32_w]
      rfl
     refine one_ (i := 15) (N := some 38) #[T_, T_, T_, T_, T_, T_, T_, T_, T_, T_, T_, T_, T_, T_, T_, T_, F_, T_, F_] rfl rfl (one_of HT_.out (by kernel_rfl)) (by decide) (fun K hK => ?_)
     refine Kd.R_append_rows_step (Kd.int .u8) (w0 := w) w.heap.size (by rfl) (.tmp 32) (.tmp 37) 22 5 (.int .u8 0) 1 rfl Try.underlying22 info5 rfl (by decide) (by omega) v220 y219 ((l2.take ((wrap64 ((l2.length : Int) - 2)) : Int).toNat).drop 3) _ _ _ (fun _ => True) (fun _ => False) rfl rfl ?aO ?aR (fun _ _ h => h) (fun _ h => h.elim) ?aF ?aB ?aS ?aL ?_
     (case aR => first | (have e_ := (Kd.C_below HR222.out HB.out); rw [show ((l2.take ((wrap64 ((l2.length : Int) - 2)) : Int).toNat).drop 3).length = ((wrap64 ((l2.length : Int) - 2)).toNat - 3) from (by rw [List.length_drop, List.length_take]; have h_ : ((wrap64 ((l2.length : Int) - 2)) : Int) ≤ (l2.length : Int) := of_decide_eq_true (by first | (with_reducible assumption) | assumption); omega)] at e_; exact e_) | (rw [← show ((l2.take ((wrap64 ((l2.length : Int) - 2)) : Int).toNat).drop 3).length = ((wrap64 ((l2.length : Int) - 2)).toNat - 3) from (by rw [List.length_drop, List.length_take]; have h_ : ((wrap64 ((l2.length : Int) - 2)) : Int) ≤ (l2.length : Int) := of_decide_eq_true (by first | (with_reducible assumption) | assumption); omega)]; repeat (first | exact (Kd.C_below HR222.out HB.out) | (with_reducible refine Kd.C_alloc ?_ _) | (with_reducible refine Kd.C_drewN ?_ _) | (with_reducible refine Kd.C_drew ?_))) | (repeat (first | exact (Kd.C_below HR222.out HB.out) | (with_reducible refine Kd.C_alloc ?_ _) | (with_reducible refine Kd.C_drewN ?_ _) | (with_reducible refine Kd.C_drew ?_))))
     (case aB => exact (us_ HB.out))
     (case aF => exact (fun _ _ => trivial))
     (case aO => exact (Kd.ur_ HO221.out))
     (case aS => exact (below_size (us_ HB.out)))
     (case aL => have := LMc16.out; have hlx_ := (show ((l2.take ((wrap64 ((l2.length : Int) - 2)) : Int).toNat).drop 3).length = ((wrap64 ((l2.length : Int) - 2)).toNat - 3) from (by rw [List.length_drop, List.length_take]; have h_ : ((wrap64 ((l2.length : Int) - 2)) : Int) ≤ (l2.length : Int) := of_decide_eq_true (by first | (with_reducible assumption) | assumption); omega)); omega)
     intro v224 w73 ho hb hg hat
     rw [← Ny223.out] at ho
     have n0_ := mk_ (blk_grown (g := gb214) (o := .cells #[.int .i64 0, .int .i64 0, .int .i64 0, .slice none 0 0] 27 (0, 0)) (u_ BK214.out) hg (Kd.R_ne HO221.out BK214.out (by decide)))
     have n1_ := mk_ (blk_grown (g := gb226) (o := .cells #[.int .i64 0, .int .i64 0, .int .i64 0, .slice none 0 0] 27 (0, 0)) (u_ BK226.out) hg (Kd.R_ne HO221.out BK226.out (by decide)))
     have n2_ := mk_ (hb)
     have n3_ := mk_ (ho)
     clear BK214
     clear BK226
     clear HB
     clear HO221
     have BK214 := n0_
     have BK226 := n1_
     have HB := n2_
     have HO225 := n3_
     clear n0_ n1_ n2_ n3_
     clear ho hb hg hat
     obtain ⟨Ao74, co74, eo74⟩ := Kd.R_slice HO225.out
     (first | subst eo74 | (injection eo74 with f1_ f2_ f3_; have f4_ := f1_.symm; have f5_ := f3_.symm; clear f1_ f2_ f3_; subst f4_; subst f5_))
     refine hK.out _ _ ⟨((HB.out.cell (lc_ w _ hw217_0)).trans hw217_0), ((HB.out.cell (lc_ w _ hw218_0)).trans hw218_0)⟩ (fun hHeld => ?_)
     clear hK K
     refine norm_ (a' := ?_) ?_ ?_
     rotate_left
     ·show Act.put _ (some 38) _ = _
      simp only [Act.put, la_, lz_, ls_, i64_w, i32_w]
      rfl
     refine pure_ (i := 16) (N := some 39) (v := ?_) (a' := ?_) #[T_, T_, T_, T_, T_, T_, T_, T_, T_, T_, T_, T_, T_, T_, T_, T_, T_, T_, F_] rfl rfl (any_of HT_.out (by kernel_rfl)) (fun _ _ _ h => h) (Or.inl ⟨by rfl, ?_⟩) ?_ ?_
     rotate_left
     ·intro w'
      go_simp
      with_reducible rfl
     rotate_left
     ·simp only [Act.put, la_, lz_, ls_, i64_w, i32_w]
      rfl
     exact norm_ (by simp only [putAll, Act.put, la_, lz_, ls_]) (hCont (v220, .slice Ao74 y223.length co74, gb226) _ ⟨hHeld, (Kd.ur_ HO225.out), (u_ BK214.out), (u_ BK226.out), GW226.out, GE226.out, NB214_226.out, NB226_214.out, (us_ HB.out)⟩)
    rintro ⟨v220, v224, gb226⟩ w75 ⟨hS_, h0_, h1_, h2_, h3_, h4_, h5_, h6_, h7_⟩
    have n0_ : Aside0 (Kd.R (Kd.int .u8) 5 w75 w.heap.size (fun _ => True) v224 y223) := ⟨h0_⟩
    have n1_ : Aside0 (w75.heap[gb214]? = some (.cells #[.int .i64 0, .int .i64 0, .int .i64 0, .slice none 0 0] 27 (0, 0))) := ⟨h1_⟩
    have n2_ : Aside0 (w75.heap[gb226]? = some (.cells #[.int .i64 0, .int .i64 0, .int .i64 0, .slice none 0 0] 27 (0, 0))) := ⟨h2_⟩
    have n3_ : Aside0 (w.heap.size ≤ gb226) := ⟨h3_⟩
    have n4_ : Aside0 (w.heap.size ≤ gb226) := ⟨h4_⟩
    have n5_ : Aside0 (gb214 ≠ gb226) := ⟨h5_⟩
    have n6_ : Aside0 (gb226 ≠ gb214) := ⟨h6_⟩
    have n7_ : Aside0 (Below w.heap.size w w75) := ⟨h7_⟩
    clear BK214
    clear HB
    clear h0_ h1_ h2_ h3_ h4_ h5_ h6_ h7_
    have HO225 := n0_
    have BK214 := n1_
    have BK226 := n2_
    have GW226 := n3_
    have GE226 := ge_ n4_.out
    have NB214_226 := nq_ n5_.out
    have NB226_214 := nq_ n6_.out
    have HB := n7_
    clear n0_ n1_ n2_ n3_ n4_ n5_ n6_ n7_
    have hHeld : w75.cell? ad217 = some (.int .u8 (rd l2 0)) ∧ w75.cell? ⟨ad217.block, ad217.off + 1, none⟩ = some (.int .u8 (rd l2 1)) := hS_
    obtain ⟨Ao76, co76, eo76⟩ := Kd.R_slice HO225.out
    (first | subst eo76 | (injection eo76 with f1_ f2_ f3_; have f4_ := f1_.symm; have f5_ := f3_.symm; clear f1_ f2_ f3_; subst f4_; subst f5_))
    refine norm_ (a' := ?_) ?_ ?_
    rotate_left
    ·simp only [putAll, Act.put, la_, lz_, ls_]
     rfl
    refine one_ (i := 18) (N := none) #[T_, T_, T_, T_, T_, T_, T_, T_, T_, T_, T_, T_, T_, T_, T_, T_, T_, T_, T_] rfl rfl (one_of HT_.out (by kernel_rfl)) (by decide) (fun K hK => ?_)
    have hs77 : w75.cell? ⟨gb226, 0, none⟩ = some (.int .i64 0) := (blk_cell BK226.out 0).trans rfl
    have hfs77 := blk_frozen BK226.out 0
    have hns77_0 := NB214_226.out
    have hms77_0 := NB226_214.out
    have hs78 : w75.cell? ⟨gb226, 1, none⟩ = some (.int .i64 0) := (blk_cell BK226.out 1).trans rfl
    have hfs78 := blk_frozen BK226.out 1
    have hns78_0 := NB214_226.out
    have hms78_0 := NB226_214.out
    have hs79 : w75.cell? ⟨gb226, 2, none⟩ = some (.int .i64 0) := (blk_cell BK226.out 2).trans rfl
    have hfs79 := blk_frozen BK226.out 2
    have hns79_0 := NB214_226.out
    have hms79_0 := NB226_214.out
    have hs80 : w75.cell? ⟨gb226, 3, none⟩ = some (.slice none 0 0) := (blk_cell BK226.out 3).trans rfl
    have hfs80 := blk_frozen BK226.out 3
    have hns80_0 := NB214_226.out
    have hms80_0 := NB226_214.out
    refine skip_ (w1 := ?_) (by rfl) rfl ?_ ?_
    rotate_left
    ·go_simp
     rfl
    refine hK.out _ _ ⟨((cell_far (p := ⟨gb226, _, none⟩) (by first | exact (ne1_ (by have := lc_ _ _ hw217_0; first | rwa [add_block] at this | exact this) GW226.out) | (rw [add_block]; exact (ne1_ (by have := lc_ _ _ hw217_0; first | rwa [add_block] at this | exact this) GW226.out)) | (show (Addr.add _ _).block ≠ _; rw [add_block]; exact (ne1_ (by have := lc_ _ _ hw217_0; first | rwa [add_block] at this | exact this) GW226.out)) | (dsimp only; exact (ne1_ (by have := lc_ _ _ hw217_0; first | rwa [add_block] at this | exact this) GW226.out))) _).trans (((cell_far (p := ⟨gb226, _, none⟩) (by first | exact (ne1_ (by have := lc_ _ _ hw217_0; first | rwa [add_block] at this | exact this) GW226.out) | (rw [add_block]; exact (ne1_ (by have := lc_ _ _ hw217_0; first | rwa [add_block] at this | exact this) GW226.out)) | (show (Addr.add _ _).block ≠ _; rw [add_block]; exact (ne1_ (by have := lc_ _ _ hw217_0; first | rwa [add_block] at this | exact this) GW226.out)) | (dsimp only; exact (ne1_ (by have := lc_ _ _ hw217_0; first | rwa [add_block] at this | exact this) GW226.out))) _).trans (((cell_far (p := ⟨gb226, _, none⟩) (by first | exact (ne1_ (by have := lc_ _ _ hw217_0; first | rwa [add_block] at this | exact this) GW226.out) | (rw [add_block]; exact (ne1_ (by have := lc_ _ _ hw217_0; first | rwa [add_block] at this | exact this) GW226.out)) | (show (Addr.add _ _).block ≠ _; rw [add_block]; exact (ne1_ (by have := lc_ _ _ hw217_0; first | rwa [add_block] at this | exact this) GW226.out)) | (dsimp only; exact (ne1_ (by have := lc_ _ _ hw217_0; first | rwa [add_block] at this | exact this) GW226.out))) _).trans (((cell_far (p := ⟨gb226, _, none⟩) (by first | exact (ne1_ (by have := lc_ _ _ hw217_0; first | rwa [add_block] at this | exact this) GW226.out) | (rw [add_block]; exact (ne1_ (by have := lc_ _ _ hw217_0; first | rwa [add_block] at this | exact this) GW226.out)) | (show (Addr.add _ _).block ≠ _; rw [add_block]; exact (ne1_ (by have := lc_ _ _ hw217_0; first | rwa [add_block] at this | exact this) GW226.out)) | (dsimp only; exact (ne1_ (by have := lc_ _ _ hw217_0; first | rwa [add_block] at this | exact this) GW226.out))) _).trans (hHeld.1)))))))), ((cell_far (p := ⟨gb226, _, none⟩) (by first | exact (ne1_ (by have := lc_ _ _ hw218_0; first | rwa [add_block] at this | exact this) GW226.out) | (rw [add_block]; exact (ne1_ (by have := lc_ _ _ hw218_0; first | rwa [add_block] at this | exact this) GW226.out)) | (show (Addr.add _ _).block ≠ _; rw [add_block]; exact (ne1_ (by have := lc_ _ _ hw218_0; first | rwa [add_block] at this | exact this) GW226.out)) | (dsimp only; exact (ne1_ (by have := lc_ _ _ hw218_0; first | rwa [add_block] at this | exact this) GW226.out))) _).trans (((cell_far (p := ⟨gb226, _, none⟩) (by first | exact (ne1_ (by have := lc_ _ _ hw218_0; first | rwa [add_block] at this | exact this) GW226.out) | (rw [add_block]; exact (ne1_ (by have := lc_ _ _ hw218_0; first | rwa [add_block] at this | exact this) GW226.out)) | (show (Addr.add _ _).block ≠ _; rw [add_block]; exact (ne1_ (by have := lc_ _ _ hw218_0; first | rwa [add_block] at this | exact this) GW226.out)) | (dsimp only; exact (ne1_ (by have := lc_ _ _ hw218_0; first | rwa [add_block] at this | exact this) GW226.out))) _).trans (((cell_far (p := ⟨gb226, _, none⟩) (by first | exact (ne1_ (by have := lc_ _ _ hw218_0; first | rwa [add_block] at this | exact this) GW226.out) | (rw [add_block]; exact (ne1_ (by have := lc_ _ _ hw218_0; first | rwa [add_block] at this | exact this) GW226.out)) | (show (Addr.add _ _).block ≠ _; rw [add_block]; exact (ne1_ (by have := lc_ _ _ hw218_0; first | rwa [add_block] at this | exact this) GW226.out)) | (dsimp only; exact (ne1_ (by have := lc_ _ _ hw218_0; first | rwa [add_block] at this | exact this) GW226.out))) _).trans (((cell_far (p := ⟨gb226, _, none⟩) (by first | exact (ne1_ (by have := lc_ _ _ hw218_0; first | rwa [add_block] at this | exact this) GW226.out) | (rw [add_block]; exact (ne1_ (by have := lc_ _ _ hw218_0; first | rwa [add_block] at this | exact this) GW226.out)) | (show (Addr.add _ _).block ≠ _; rw [add_block]; exact (ne1_ (by have := lc_ _ _ hw218_0; first | rwa [add_block] at this | exact this) GW226.out)) | (dsimp only; exact (ne1_ (by have := lc_ _ _ hw218_0; first | rwa [add_block] at this | exact this) GW226.out))) _).trans (hHeld.2))))))))⟩ (fun hHeld => ?_)
    clear hK K
    refine done_ (done_of HT_.out (by kernel_rfl)) ?_
    try go_wp2
    have n0_ : Aside0 (Kd.R (Kd.int .u8) 5 ((((w75.setCell ⟨gb226, 0, none⟩ (.int .i64 a0)).setCell ⟨gb226, 1, none⟩ (.int .i64 (wrap64 (rd l2 0)))).setCell ⟨gb226, 2, none⟩ (.int .i64 (wrap64 (rd l2 1)))).setCell ⟨gb226, 3, none⟩ (.slice Ao76 y223.length co76)) w.heap.size (fun _ => True) (.slice Ao76 y223.length co76) y223) := ⟨by (with_reducible repeat (first | apply Kd.R_alloc | apply Kd.R_drewN | apply Kd.R_drew)); exact Kd.R_mono (Kd.R_far (p := ⟨gb226, 3, none⟩) (Kd.R_far (p := ⟨gb226, 2, none⟩) (Kd.R_far (p := ⟨gb226, 1, none⟩) (Kd.R_far (p := ⟨gb226, 0, none⟩) (Kd.R_types HO225.out BK226.out (by decide)) (fun _ hk => hk.2) (.int .i64 a0)) (fun _ hk => hk.2) (.int .i64 (wrap64 (rd l2 0)))) (fun _ hk => hk.2) (.int .i64 (wrap64 (rd l2 1)))) (fun _ hk => hk.2) (.slice Ao76 y223.length co76)) (fun _ hk => trivial)⟩
    have n1_ : Aside0 (((((w75.setCell ⟨gb226, 0, none⟩ (.int .i64 a0)).setCell ⟨gb226, 1, none⟩ (.int .i64 (wrap64 (rd l2 0)))).setCell ⟨gb226, 2, none⟩ (.int .i64 (wrap64 (rd l2 1)))).setCell ⟨gb226, 3, none⟩ (.slice Ao76 y223.length co76)).heap[gb214]? = some (.cells #[.int .i64 0, .int .i64 0, .int .i64 0, .slice none 0 0] 27 (0, 0))) := ⟨uf_ BK214.out⟩
    have n2_ : Aside0 (((((w75.setCell ⟨gb226, 0, none⟩ (.int .i64 a0)).setCell ⟨gb226, 1, none⟩ (.int .i64 (wrap64 (rd l2 0)))).setCell ⟨gb226, 2, none⟩ (.int .i64 (wrap64 (rd l2 1)))).setCell ⟨gb226, 3, none⟩ (.slice Ao76 y223.length co76)).heap[gb226]? = some (.cells #[.int .i64 a0, .int .i64 (wrap64 (rd l2 0)), .int .i64 (wrap64 (rd l2 1)), .slice Ao76 y223.length co76] 27 (0, 0))) := ⟨by (with_reducible repeat (first | refine bn_ ?_ _ | refine bw_ ?_ | refine ba_ ?_ _)); refine blk_put (cs := #[.int .i64 a0, .int .i64 (wrap64 (rd l2 0)), .int .i64 (wrap64 (rd l2 1)), .slice none 0 0]) ?_ 3 _ rfl; (with_reducible repeat (first | refine bn_ ?_ _ | refine bw_ ?_ | refine ba_ ?_ _)); refine blk_put (cs := #[.int .i64 a0, .int .i64 (wrap64 (rd l2 0)), .int .i64 0, .slice none 0 0]) ?_ 2 _ rfl; (with_reducible repeat (first | refine bn_ ?_ _ | refine bw_ ?_ | refine ba_ ?_ _)); refine blk_put (cs := #[.int .i64 a0, .int .i64 0, .int .i64 0, .slice none 0 0]) ?_ 1 _ rfl; (with_reducible repeat (first | refine bn_ ?_ _ | refine bw_ ?_ | refine ba_ ?_ _)); refine blk_put (cs := #[.int .i64 0, .int .i64 0, .int .i64 0, .slice none 0 0]) ?_ 0 _ rfl; (with_reducible repeat (first | refine bn_ ?_ _ | refine bw_ ?_ | refine ba_ ?_ _)); exact BK226.out⟩
    have n3_ : Aside0 (Below w.heap.size w ((((w75.setCell ⟨gb226, 0, none⟩ (.int .i64 a0)).setCell ⟨gb226, 1, none⟩ (.int .i64 (wrap64 (rd l2 0)))).setCell ⟨gb226, 2, none⟩ (.int .i64 (wrap64 (rd l2 1)))).setCell ⟨gb226, 3, none⟩ (.slice Ao76 y223.length co76))) := ⟨us_ HB.out⟩
    (try clear HO225)
    (try clear BK214)
    (try clear BK226)
    (try clear HB)
    generalize ((((w75.setCell ⟨gb226, 0, none⟩ (.int .i64 a0)).setCell ⟨gb226, 1, none⟩ (.int .i64 (wrap64 (rd l2 0)))).setCell ⟨gb226, 2, none⟩ (.int .i64 (wrap64 (rd l2 1)))).setCell ⟨gb226, 3, none⟩ (.slice Ao76 y223.length co76)) = w81 at n0_ n1_ n2_ n3_ ⊢
    have HO225 := n0_
    have BK214 := n1_
    have BK226 := n2_
    have HB := n3_
    clear n0_ n1_ n2_ n3_
    have n0_ := mk_ (Kd.R_drew HO225.out)
    have n1_ := mk_ (blk_drew BK214.out)
    have n2_ := mk_ (blk_drew BK226.out)
    have n3_ := mk_ (below_drew1 HB.out)
    clear HO225
    clear BK214
    clear BK226
    clear HB
    have HO225 := n0_
    have BK214 := n1_
    have BK226 := n2_
    have HB := n3_
    clear n0_ n1_ n2_ n3_
    have p228 : 0 ≤ (2 : Int) := (by omega)
    have q228 : 2 < (l2.length : Int) := of_decide_eq_true (by first | (with_reducible assumption) | assumption)
    obtain ⟨ad228, e228, hx228_0⟩ := Kd.at_int HR2.out 2 p228 q228
    have hw228_0 := hx228_0
    (try rw [show ((2 : Int)).toNat = 2 from rfl] at hw228_0)
    (try rw [show 2 * 1 = 2 from rfl] at hw228_0)
    (try simp only [Nat.reduceMul, Nat.reduceEqDiff, Go.Addr.add, ↓reduceIte] at hw228_0)
    obtain rfl : ad217 = ad228 := (by injection e228)
    (try simp only [show (2 : Int).toNat = 2 from rfl, Nat.reduceMul, Nat.reduceEqDiff, Go.Addr.add, ↓reduceIte] at hx228_0)
    have qi228 : (2 < l2.length) = True := eq_true (by omega)
    (try rw [show ((2 : Int)).toNat = 2 from rfl] at hx228_0)
    replace hx228_0 := (HB.out.cell (lc_ w _ hx228_0)).trans hx228_0
    replace p228 := eq_true p228
    replace q228 := eq_true q228
    refine start_ (n := 29) (S := fun w' => w'.cell? ⟨gb226, 0, none⟩ = some (.int .i64 a0) ∧ w'.cell? ⟨gb226, 1, none⟩ = some (.int .i64 (wrap64 (rd l2 0))) ∧ w'.cell? ⟨gb226, 2, none⟩ = some (.int .i64 (wrap64 (rd l2 1))) ∧ w'.cell? ⟨gb226, 3, none⟩ = some (.slice Ao76 y223.length co76) ∧ w'.cell? ⟨ad217.block, ad217.off + 2, none⟩ = some (.int .u8 (rd l2 2))) (ds := []) #[F_, F_, F_, F_, F_, F_, F_, F_, F_, F_, F_, F_, F_, F_, F_, F_, F_, F_, F_, F_, F_, F_, F_, F_, F_, F_, F_, F_, F_] (by kernel_rfl) rfl rfl ⟨(blk_cell BK226.out 0).trans rfl, (blk_cell BK226.out 1).trans rfl, (blk_cell BK226.out 2).trans rfl, (blk_cell BK226.out 3).trans rfl, ((HB.out.cell (lc_ w _ hw228_0)).trans hw228_0)⟩ (fun hHeld => ?_); refine with_tabW spec_MailFrom.tab4 spec_MailFrom.bits4 (fun HT_ HW_ => ?_)
    generalize w81.drew = w82 at HO225 BK214 BK226 HB hx228_0 hHeld ⊢
    refine take_ (i := 0) (N := some 40) (v := ?_) (a' := ?_) #[T_, F_, F_, F_, F_, F_, F_, F_, F_, F_, F_, F_, F_, F_, F_, F_, F_, F_, F_, F_, F_, F_, F_, F_, F_, F_, F_, F_, F_] rfl rfl (take_ofW HT_.out HW_.out (by kernel_rfl)) (fun _ _ _ h => h) (Or.inl ⟨by rfl, ?_⟩) hHeld ?_ ?_
    rotate_left
    ·rintro w' ⟨s0, s1, s2, s3, s4⟩
     go_simp
     with_reducible rfl
    rotate_left
    ·simp only [Act.put, la_, lz_, ls_, i64_w, i32_w]
     rfl
    refine one_ (i := 1) (N := some 41) #[T_, T_, F_, F_, F_, F_, F_, F_, F_, F_, F_, F_, F_, F_, F_, F_, F_, F_, F_, F_, F_, F_, F_, F_, F_, F_, F_, F_, F_] rfl rfl (one_of HT_.out (by kernel_rfl)) (by decide) (fun K hK => ?_)
    refine goes_ Try.func34 (by kernel_rfl) rfl #[.agg #[.int .i64 a0, .int .i64 (wrap64 (rd l2 0)), .int .i64 (wrap64 (rd l2 1)), .slice Ao76 y223.length co76]] (by rfl) rfl rfl (by (try simp only [lm_, lo_, ln_]); first | done | rfl | (simp only [List.length_drop, List.length_take]; rfl)) ?_
    with_reducible refine (spec_MailOk.calls a0 (wrap64 (rd l2 0)) (wrap64 (rd l2 1)) _ _ y223 true _ ?side1 ?side2 A17.out).mono ?_
    (case side1 => repeat (first | exact (Kd.R_reads' HO225.out).2.2 | (with_reducible refine Kd.C_alloc ?_ _) | (with_reducible refine Kd.C_drewN ?_ _) | (with_reducible refine Kd.C_drew ?_)))
    (case side2 => exact (Kd.R_reads' HO225.out).2.1)
    rintro e w83 ⟨rfl, hb⟩
    refine ⟨_, rfl, ?_⟩
    have n0_ := mk_ (Kd.R_below (Kd.ur_ HO225.out) hb)
    have n1_ := mk_ (blk_below (u_ BK214.out) hb)
    have n2_ := mk_ (blk_below (u_ BK226.out) hb)
    have n3_ := mk_ (below_step (us_ HB.out) hb)
    clear HO225
    clear BK214
    clear BK226
    clear HB
    have HO225 := n0_
    have BK214 := n1_
    have BK226 := n2_
    have HB := n3_
    clear n0_ n1_ n2_ n3_
    (try clear hb)
    (try clear hb2)
    (try clear hk)
    (try clear hi)
    refine hK.out _ _ ⟨(blk_cell BK226.out 0).trans rfl, (blk_cell BK226.out 1).trans rfl, (blk_cell BK226.out 2).trans rfl, (blk_cell BK226.out 3).trans rfl, ((HB.out.cell (lc_ w _ hw228_0)).trans hw228_0)⟩ (fun hHeld => ?_)
    clear hK K
    refine norm_ (a' := ?_) ?_ ?_
    rotate_left
    ·show Act.put _ (some 41) _ = _
     simp only [Act.put, la_, lz_, ls_, i64_w, i32_w]
     rfl
    refine pure_ (i := 2) (N := some 42) (v := ?_) (a' := ?_) #[T_, T_, T_, F_, F_, F_, F_, F_, F_, F_, F_, F_, F_, F_, F_, F_, F_, F_, F_, F_, F_, F_, F_, F_, F_, F_, F_, F_, F_] rfl rfl (any_of HT_.out (by kernel_rfl)) (fun _ _ _ h => h) (Or.inl ⟨by rfl, ?_⟩) ?_ ?_
    rotate_left
    ·intro w'
     go_simp
     with_reducible rfl
    rotate_left
    ·simp only [Act.put, la_, lz_, ls_, i64_w, i32_w]
     rfl
    refine pure_ (i := 3) (N := some 43) (v := ?_) (a' := ?_) #[T_, T_, T_, T_, F_, F_, F_, F_, F_, F_, F_, F_, F_, F_, F_, F_, F_, F_, F_, F_, F_, F_, F_, F_, F_, F_, F_, F_, F_] rfl rfl (any_of HT_.out (by kernel_rfl)) (fun _ _ _ h => h) (Or.inl ⟨by rfl, ?_⟩) ?_ ?_
    rotate_left
    ·intro w'
     go_simp
     with_reducible rfl
    rotate_left
    ·simp only [Act.put, la_, lz_, ls_, i64_w, i32_w]
     rfl
    refine pure_ (i := 4) (N := some 44) (v := ?_) (a' := ?_) #[T_, T_, T_, T_, T_, F_, F_, F_, F_, F_, F_, F_, F_, F_, F_, F_, F_, F_, F_, F_, F_, F_, F_, F_, F_, F_, F_, F_, F_] rfl rfl (any_of HT_.out (by kernel_rfl)) (fun _ _ _ h => h) (Or.inl ⟨by rfl, ?_⟩) ?_ ?_
    rotate_left
    ·intro w'
     go_simp
     with_reducible rfl
    rotate_left
    ·simp only [Act.put, la_, lz_, ls_, i64_w, i32_w]
     rfl
    refine pure_ (i := 5) (N := some 45) (v := ?_) (a' := ?_) #[T_, T_, T_, T_, T_, T_, F_, F_, F_, F_, F_, F_, F_, F_, F_, F_, F_, F_, F_, F_, F_, F_, F_, F_, F_, F_, F_, F_, F_] rfl rfl (any_of HT_.out (by kernel_rfl)) (fun _ _ _ h => h) (Or.inl ⟨by rfl, ?_⟩) ?_ ?_
    rotate_left
    ·intro w'
     go_simp
     with_reducible rfl
    rotate_left
    ·simp only [Act.put, la_, lz_, ls_, i64_w, i32_w]
     rfl
    refine pure_ (i := 8) (N := some 48) (v := ?_) (a' := ?_) #[T_, T_, T_, T_, T_, T_, F_, F_, T_, F_, F_, F_, F_, F_, F_, F_, F_, F_, F_, F_, F_, F_, F_, F_, F_, F_, F_, F_, F_] rfl rfl (any_of HT_.out (by kernel_rfl)) (fun _ _ _ h => h) (Or.inl ⟨by rfl, ?_⟩) ?_ ?_
    rotate_left
    ·intro w'
     go_simp
     with_reducible rfl
    rotate_left
    ·simp only [Act.put, la_, lz_, ls_, i64_w, i32_w]
     rfl
    refine take_ (i := 6) (N := some 46) (v := ?_) (a' := ?_) #[T_, T_, T_, T_, T_, T_, T_, F_, T_, F_, F_, F_, F_, F_, F_, F_, F_, F_, F_, F_, F_, F_, F_, F_, F_, F_, F_, F_, F_] rfl rfl (take_ofW HT_.out HW_.out (by kernel_rfl)) (fun _ _ _ h => h) (Or.inl ⟨by rfl, ?_⟩) hHeld ?_ ?_
    rotate_left
    ·rintro w' ⟨s0, s1, s2, s3, s4⟩
     go_simp
     with_reducible rfl
    rotate_left
    ·simp only [Act.put, la_, lz_, ls_, i64_w, i32_w]
     rfl
    refine pure_ (i := 7) (N := some 47) (v := ?_) (a' := ?_) #[T_, T_, T_, T_, T_, T_, T_, T_, T_, F_, F_, F_, F_, F_, F_, F_, F_, F_, F_, F_, F_, F_, F_, F_, F_, F_, F_, F_, F_] rfl rfl (any_of HT_.out (by kernel_rfl)) (fun _ _ _ h => h) (Or.inl ⟨by rfl, ?_⟩) ?_ ?_
    rotate_left
    ·intro w'
     go_simp
     with_reducible rfl
    rotate_left
    ·simp only [Act.put, la_, lz_, ls_, i64_w, i32_w]
     rfl
    refine take_ (i := 9) (N := some 49) (v := ?_) (a' := ?_) #[T_, T_, T_, T_, T_, T_, T_, T_, T_, T_, F_, F_, F_, F_, F_, F_, F_, F_, F_, F_, F_, F_, F_, F_, F_, F_, F_, F_, F_] rfl rfl (take_ofW HT_.out HW_.out (by kernel_rfl)) (fun _ _ _ h => h) (Or.inl ⟨by rfl, ?_⟩) hHeld ?_ ?_
    rotate_left
    ·rintro w' ⟨s0, s1, s2, s3, s4⟩
     go_simp
     with_reducible rfl
    rotate_left
    ·simp only [Act.put, la_, lz_, ls_, i64_w, i32_w]
     rfl
    refine pure_ (i := 10) (N := some 50) (v := ?_) (a' := ?_) #[T_, T_, T_, T_, T_, T_, T_, T_, T_, T_, T_, F_, F_, F_, F_, F_, F_, F_, F_, F_, F_, F_, F_, F_, F_, F_, F_, F_, F_] rfl rfl (any_of HT_.out (by kernel_rfl)) (fun _ _ _ h => h) (Or.inl ⟨by rfl, ?_⟩) ?_ ?_
    rotate_left
    ·intro w'
     go_simp
     with_reducible rfl
    rotate_left
    ·simp only [Act.put, la_, lz_, ls_, i64_w, i32_w]
     rfl
    refine pure_ (i := 11) (N := some 51) (v := ?_) (a' := ?_) #[T_, T_, T_, T_, T_, T_, T_, T_, T_, T_, T_, T_, F_, F_, F_, F_, F_, F_, F_, F_, F_, F_, F_, F_, F_, F_, F_, F_, F_] rfl rfl (any_of HT_.out (by kernel_rfl)) (fun _ _ _ h => h) (Or.inl ⟨by rfl, ?_⟩) ?_ ?_
    rotate_left
    ·intro w'
     go_simp
     with_reducible rfl
    rotate_left
    ·simp only [Act.put, la_, lz_, ls_, i64_w, i32_w]
     rfl
    refine pure_ (i := 12) (N := some 52) (v := ?_) (a' := ?_) #[T_, T_, T_, T_, T_, T_, T_, T_, T_, T_, T_, T_, T_, F_, F_, F_, F_, F_, F_, F_, F_, F_, F_, F_, F_, F_, F_, F_, F_] rfl rfl (any_of HT_.out (by kernel_rfl)) (fun _ _ _ h => h) (Or.inl ⟨by rfl, ?_⟩) ?_ ?_
    rotate_left
    ·intro w'
     go_simp
     with_reducible rfl
    rotate_left
    ·simp only [Act.put, la_, lz_, ls_, i64_w, i32_w]
     rfl
    refine pure_ (i := 13) (N := some 53) (v := ?_) (a' := ?_) #[T_, T_, T_, T_, T_, T_, T_, T_, T_, T_, T_, T_, T_, T_, F_, F_, F_, F_, F_, F_, F_, F_, F_, F_, F_, F_, F_, F_, F_] rfl rfl (any_of HT_.out (by kernel_rfl)) (fun _ _ _ h => h) (Or.inl ⟨by rfl, ?_⟩) ?_ ?_
    rotate_left
    ·intro w'
     go_simp
     with_reducible rfl
    rotate_left
    ·simp only [Act.put, la_, lz_, ls_, i64_w, i32_w]
     rfl
    refine pure_ (i := 14) (N := some 54) (v := undef) (a' := ?_) #[T_, T_, T_, T_, T_, T_, T_, T_, T_, T_, T_, T_, T_, T_, T_, F_, F_, F_, F_, F_, F_, F_, F_, F_, F_, F_, F_, F_, F_] rfl rfl (any_of HT_.out (by kernel_rfl)) (fun _ _ _ h => h) (Or.inr ⟨by rfl, rfl⟩) ?_ ?_
    rotate_left
    ·simp only [Act.put, la_, lz_, ls_, i64_w, i32_w]
     rfl
    refine pure_ (i := 15) (N := some 55) (v := undef) (a' := ?_) #[T_, T_, T_, T_, T_, T_, T_, T_, T_, T_, T_, T_, T_, T_, T_, T_, F_, F_, F_, F_, F_, F_, F_, F_, F_, F_, F_, F_, F_] rfl rfl (any_of HT_.out (by kernel_rfl)) (fun _ _ _ h => h) (Or.inr ⟨by rfl, rfl⟩) ?_ ?_
    rotate_left
    ·simp only [Act.put, la_, lz_, ls_, i64_w, i32_w]
     rfl
    refine pure_ (i := 16) (N := some 56) (v := undef) (a' := ?_) #[T_, T_, T_, T_, T_, T_, T_, T_, T_, T_, T_, T_, T_, T_, T_, T_, T_, F_, F_, F_, F_, F_, F_, F_, F_, F_, F_, F_, F_] rfl rfl (any_of HT_.out (by kernel_rfl)) (fun _ _ _ h => h) (Or.inr ⟨by rfl, rfl⟩) ?_ ?_
    rotate_left
    ·simp only [Act.put, la_, lz_, ls_, i64_w, i32_w]
     rfl
    refine pure_ (i := 17) (N := some 57) (v := undef) (a' := ?_) #[T_, T_, T_, T_, T_, T_, T_, T_, T_, T_, T_, T_, T_, T_, T_, T_, T_, T_, F_, F_, F_, F_, F_, F_, F_, F_, F_, F_, F_] rfl rfl (any_of HT_.out (by kernel_rfl)) (fun _ _ _ h => h) (Or.inr ⟨by rfl, rfl⟩) ?_ ?_
    rotate_left
    ·simp only [Act.put, la_, lz_, ls_, i64_w, i32_w]
     rfl
    refine pure_ (i := 18) (N := some 58) (v := undef) (a' := ?_) #[T_, T_, T_, T_, T_, T_, T_, T_, T_, T_, T_, T_, T_, T_, T_, T_, T_, T_, T_, F_, F_, F_, F_, F_, F_, F_, F_, F_, F_] rfl rfl (any_of HT_.out (by kernel_rfl)) (fun _ _ _ h => h) (Or.inr ⟨by rfl, rfl⟩) ?_ ?_
    rotate_left
    ·simp only [Act.put, la_, lz_, ls_, i64_w, i32_w]
     rfl
    refine pure_ (i := 19) (N := some 59) (v := undef) (a' := ?_) #[T_, T_, T_, T_, T_, T_, T_, T_, T_, T_, T_, T_, T_, T_, T_, T_, T_, T_, T_, T_, F_, F_, F_, F_, F_, F_, F_, F_, F_] rfl rfl (any_of HT_.out (by kernel_rfl)) (fun _ _ _ h => h) (Or.inr ⟨by rfl, rfl⟩) ?_ ?_
    rotate_left
    ·simp only [Act.put, la_, lz_, ls_, i64_w, i32_w]
     rfl
    refine pure_ (i := 20) (N := some 60) (v := undef) (a' := ?_) #[T_, T_, T_, T_, T_, T_, T_, T_, T_, T_, T_, T_, T_, T_, T_, T_, T_, T_, T_, T_, T_, F_, F_, F_, F_, F_, F_, F_, F_] rfl rfl (any_of HT_.out (by kernel_rfl)) (fun _ _ _ h => h) (Or.inr ⟨by rfl, rfl⟩) ?_ ?_
    rotate_left
    ·simp only [Act.put, la_, lz_, ls_, i64_w, i32_w]
     rfl
    refine pure_ (i := 21) (N := some 61) (v := undef) (a' := ?_) #[T_, T_, T_, T_, T_, T_, T_, T_, T_, T_, T_, T_, T_, T_, T_, T_, T_, T_, T_, T_, T_, T_, F_, F_, F_, F_, F_, F_, F_] rfl rfl (any_of HT_.out (by kernel_rfl)) (fun _ _ _ h => h) (Or.inr ⟨by rfl, rfl⟩) ?_ ?_
    rotate_left
    ·simp only [Act.put, la_, lz_, ls_, i64_w, i32_w]
     rfl
    refine pure_ (i := 22) (N := some 62) (v := undef) (a' := ?_) #[T_, T_, T_, T_, T_, T_, T_, T_, T_, T_, T_, T_, T_, T_, T_, T_, T_, T_, T_, T_, T_, T_, T_, F_, F_, F_, F_, F_, F_] rfl rfl (any_of HT_.out (by kernel_rfl)) (fun _ _ _ h => h) (Or.inr ⟨by rfl, rfl⟩) ?_ ?_
    rotate_left
    ·simp only [Act.put, la_, lz_, ls_, i64_w, i32_w]
     rfl
    refine pure_ (i := 23) (N := some 63) (v := undef) (a' := ?_) #[T_, T_, T_, T_, T_, T_, T_, T_, T_, T_, T_, T_, T_, T_, T_, T_, T_, T_, T_, T_, T_, T_, T_, T_, F_, F_, F_, F_, F_] rfl rfl (any_of HT_.out (by kernel_rfl)) (fun _ _ _ h => h) (Or.inr ⟨by rfl, rfl⟩) ?_ ?_
    rotate_left
    ·simp only [Act.put, la_, lz_, ls_, i64_w, i32_w]
     rfl
    refine pure_ (i := 24) (N := some 64) (v := undef) (a' := ?_) #[T_, T_, T_, T_, T_, T_, T_, T_, T_, T_, T_, T_, T_, T_, T_, T_, T_, T_, T_, T_, T_, T_, T_, T_, T_, F_, F_, F_, F_] rfl rfl (any_of HT_.out (by kernel_rfl)) (fun _ _ _ h => h) (Or.inr ⟨by rfl, rfl⟩) ?_ ?_
    rotate_left
    ·simp only [Act.put, la_, lz_, ls_, i64_w, i32_w]
     rfl
    refine pure_ (i := 25) (N := some 65) (v := undef) (a' := ?_) #[T_, T_, T_, T_, T_, T_, T_, T_, T_, T_, T_, T_, T_, T_, T_, T_, T_, T_, T_, T_, T_, T_, T_, T_, T_, T_, F_, F_, F_] rfl rfl (any_of HT_.out (by kernel_rfl)) (fun _ _ _ h => h) (Or.inr ⟨by rfl, rfl⟩) ?_ ?_
    rotate_left
    ·simp only [Act.put, la_, lz_, ls_, i64_w, i32_w]
     rfl
    refine pure_ (i := 26) (N := some 66) (v := undef) (a' := ?_) #[T_, T_, T_, T_, T_, T_, T_, T_, T_, T_, T_, T_, T_, T_, T_, T_, T_, T_, T_, T_, T_, T_, T_, T_, T_, T_, T_, F_, F_] rfl rfl (any_of HT_.out (by kernel_rfl)) (fun _ _ _ h => h) (Or.inr ⟨by rfl, rfl⟩) ?_ ?_
    rotate_left
    ·simp only [Act.put, la_, lz_, ls_, i64_w, i32_w]
     rfl
    refine pure_ (i := 27) (N := some 67) (v := undef) (a' := ?_) #[T_, T_, T_, T_, T_, T_, T_, T_, T_, T_, T_, T_, T_, T_, T_, T_, T_, T_, T_, T_, T_, T_, T_, T_, T_, T_, T_, T_, F_] rfl rfl (any_of HT_.out (by kernel_rfl)) (fun _ _ _ h => h) (Or.inr ⟨by rfl, rfl⟩) ?_ ?_
    rotate_left
    ·simp only [Act.put, la_, lz_, ls_, i64_w, i32_w]
     rfl
    refine pure_ (i := 28) (N := some 68) (v := ?_) (a' := ?_) #[T_, T_, T_, T_, T_, T_, T_, T_, T_, T_, T_, T_, T_, T_, T_, T_, T_, T_, T_, T_, T_, T_, T_, T_, T_, T_, T_, T_, T_] rfl rfl (any_of HT_.out (by kernel_rfl)) (fun _ _ _ h => h) (Or.inl ⟨by rfl, ?_⟩) ?_ ?_
    rotate_left
    ·intro w'
     go_simp
     with_reducible rfl
    rotate_left
    ·simp only [Act.put, la_, lz_, ls_, i64_w, i32_w]
     rfl
    refine done_ (done_of HT_.out (by kernel_rfl)) ?_
    have hnb84 := NB214_226.out
    have hnc84 := NB226_214.out
    obtain ⟨hcz85_0, hcz85_1, hcz85_2, hcz85_3, hfz85_0, hfz85_1, hfz85_2, hfz85_3⟩ := cells4_ BK214.out
    try go_wp2
    refine bodyPost_ret (results_ct rfl _ _ gb214 27 #[.int .i64 0, .int .i64 0, .int .i64 0, .slice none 0 0] (0, 0) _ rfl (by (with_reducible repeat (first | refine bn_ ?_ _ | refine bw_ ?_ | refine ba_ ?_ _)); refine blk_put (cs := #[.int .i64 0, .int .i64 0, .int .i64 0, .slice none 0 0]) ?_ 3 _ rfl; (with_reducible repeat (first | refine bn_ ?_ _ | refine bw_ ?_ | refine ba_ ?_ _)); refine blk_put (cs := #[.int .i64 0, .int .i64 0, .int .i64 0, .slice none 0 0]) ?_ 2 _ rfl; (with_reducible repeat (first | refine bn_ ?_ _ | refine bw_ ?_ | refine ba_ ?_ _)); refine blk_put (cs := #[.int .i64 0, .int .i64 0, .int .i64 0, .slice none 0 0]) ?_ 1 _ rfl; (with_reducible repeat (first | refine bn_ ?_ _ | refine bw_ ?_ | refine ba_ ?_ _)); refine blk_put (cs := #[.int .i64 0, .int .i64 0, .int .i64 0, .slice none 0 0]) ?_ 0 _ rfl; (with_reducible repeat (first | refine bn_ ?_ _ | refine bw_ ?_ | refine ba_ ?_ _)); exact BK214.out) Try.underlying27 rfl (by kernel_rfl)) rfl ?_
    exact ⟨_, by first | rfl | (simp [errW_none, errW_some] <;> rfl) | (simp [*, errW_none, errW_some] <;> rfl), by first | exact Kd.R_nil _ _ _ _ _ | exact Kd.N_nil _ _ _ _ _ | exact Kd.V_nil _ _ _ _ _ | exact Kd.Q_nil _ _ _ _ _ | exact Kd.S_nil _ _ _ _ _, us_ HB.out⟩
   rw [if_pos c20] at H
   have c20b0 : ((wrap64 (rd l2 2)) == (y223.length : Int)) = true := beq_iff_eq.mpr c20
   have c20b1 : ((wrap64 (rd l2 2)) != (y223.length : Int)) = false := bne_eq_false_iff_eq.mpr c20
   clear c20
   replace H := Option.bind_eq_some_iff.mp H
   obtain ⟨t229, A210, H⟩ := H
   replace H : (if 0 ≤ (wrap64 ((l2.length : Int) - 2)) then ((spec_l9Sum.f kj3 a0 a1 (l2.take ((wrap64 ((l2.length : Int) - 2)) : Int).toNat)).bind fun t231 => (if t229 = t231 then (some (a0, wrap64 (rd l2 0), wrap64 (rd l2 1), y223, true)) else (some (0, 0, 0, ([] : List Int), false)))) else (none)) = some (r1, r2, r3, r4, r5) := H
   have A21 := mk_ A210
   clear A210
   obtain ⟨ji22, hji22⟩ : ∃ j_ : Int, (wrap64 ((l2.length : Int) - 2)) = j_ := ⟨_, rfl⟩
   replace H : (if 0 ≤ (ji22) then ((spec_l9Sum.f kj3 a0 a1 (l2.take ((ji22) : Int).toNat)).bind fun t231 => (if t229 = t231 then (some (a0, wrap64 (rd l2 0), wrap64 (rd l2 1), y223, true)) else (some (0, 0, 0, ([] : List Int), false)))) else (none)) = some (r1, r2, r3, r4, r5) := by first | (rw [hji22] at H; exact H) | (simp only [hji22] at H ⊢; exact H)
   (try rw [hji22] at c14b0)
   (try rw [hji22] at c14b1)
   (try rw [hji22] at c15b0)
   (try rw [hji22] at c15b1)
   (try rw [hji22] at LMc16)
   (try rw [hji22] at Ny223)
   (try rw [hji22] at Ny223)
   (try rw [hji22] at Ny223)
   (try rw [hji22] at A17)
   (try rw [hji22] at Ny223)
   (try rw [hji22] at A21)
   have hji22w : (IntKind.i64.wrap ((l2.length : Int) - 2)) = ji22 := (i64_w _).trans hji22
   by_cases c23 : 0 ≤ (ji22)
   rotate_left
   ·rw [if_neg c23] at H
    exact absurd H (by simp)
   rw [if_pos c23] at H
   have c23b0 := eq_true c23
   have c23b1 : decide (0 ≤ (ji22)) = true := decide_eq_true c23
   clear c23
   have c24b0 := eq_true (of_decide_eq_true (by first | (with_reducible assumption) | assumption) : (ji22) ≤ (l2.length : Int))
   replace H := Option.bind_eq_some_iff.mp H
   obtain ⟨t231, A250, H⟩ := H
   replace H : (if t229 = t231 then (some (a0, wrap64 (rd l2 0), wrap64 (rd l2 1), y223, true)) else (some (0, 0, 0, ([] : List Int), false))) = some (r1, r2, r3, r4, r5) := H
   have A25 := mk_ A250
   clear A250
   by_cases c26 : t229 = t231
   rotate_left
   ·rw [if_neg c26] at H
    have c26b0 : (t229 == t231) = false := beq_eq_false_iff_ne.mpr c26
    have c26b1 : (t229 != t231) = true := bne_iff_ne.mpr c26
    simp only [Option.some.injEq, Prod.mk.injEq] at H
    obtain ⟨rfl, rfl, rfl, rfl, rfl⟩ := H
    try go_wp2
    have n0_ := mk_ (blk_drew BK214.out)
    have n1_ := mk_ (below_drew1 HB.out)
    clear BK214
    clear HB
    have BK214 := n0_
    have HB := n1_
    clear n0_ n1_
    have p217 : 0 ≤ (0 : Int) := (by omega)
    have q217 : 0 < (l2.length : Int) := of_decide_eq_true (by first | (with_reducible assumption) | assumption)
    obtain ⟨ad217, e217, hx217_0⟩ := Kd.at_int HR2.out 0 p217 q217
    have hw217_0 := hx217_0
    (try rw [show ((0 : Int)).toNat = 0 from rfl] at hw217_0)
    (try rw [show 0 * 1 = 0 from rfl] at hw217_0)
    (try rw [Addr.add_zero'] at hw217_0)
    cases e217
    have qi217 : (0 < l2.length) = True := eq_true (by omega)
    (try rw [show ((0 : Int)).toNat = 0 from rfl] at hx217_0)
    (try rw [Addr.add_zero'] at hx217_0)
    replace hx217_0 := (HB.out.cell (lc_ w _ hx217_0)).trans hx217_0
    replace p217 := eq_true p217
    replace q217 := eq_true q217
    have p218 : 0 ≤ (1 : Int) := (by omega)
    have q218 : 1 < (l2.length : Int) := of_decide_eq_true (by first | (with_reducible assumption) | assumption)
    obtain ⟨ad218, e218, hx218_0⟩ := Kd.at_int HR2.out 1 p218 q218
    have hw218_0 := hx218_0
    (try rw [show ((1 : Int)).toNat = 1 from rfl] at hw218_0)
    (try rw [show 1 * 1 = 1 from rfl] at hw218_0)
    (try simp only [Nat.reduceMul, Nat.reduceEqDiff, Go.Addr.add, ↓reduceIte] at hw218_0)
    obtain rfl : ad217 = ad218 := (by injection e218)
    (try simp only [show (1 : Int).toNat = 1 from rfl, Nat.reduceMul, Nat.reduceEqDiff, Go.Addr.add, ↓reduceIte] at hx218_0)
    have qi218 : (1 < l2.length) = True := eq_true (by omega)
    (try rw [show ((1 : Int)).toNat = 1 from rfl] at hx218_0)
    replace hx218_0 := (HB.out.cell (lc_ w _ hx218_0)).trans hx218_0
    replace p218 := eq_true p218
    replace q218 := eq_true q218
    obtain ⟨i049, hi049, _, hsz49, _⟩ := info_parts info5
    obtain ⟨A49, hcut49, hA49, hC49⟩ := print_mid_of (P := Try.prog) (Value.int .u8) 0 22 5 .i64 .i64 Try.underlying22 hi049 hsz49 (some ad217) c2 l2 3 (ji22) (by omega) (by first | omega | exact of_decide_eq_true (by first | (with_reducible assumption) | assumption)) (of_decide_eq_true (by first | (with_reducible assumption) | assumption)) HC2.out
    have HR222 := mk_ (Kd.C_of_reads (h1 := fun _ => rfl) (hA49 _ (Kd.reads_of_C HR2.out)))
    have HC222 := mk_ hC49
    clear hA49 hC49 hi049 hsz49
    refine start_ (n := 19) (S := fun w' => w'.cell? ad217 = some (.int .u8 (rd l2 0)) ∧ w'.cell? ⟨ad217.block, ad217.off + 1, none⟩ = some (.int .u8 (rd l2 1))) (ds := []) #[F_, F_, F_, F_, F_, F_, F_, F_, F_, F_, F_, F_, F_, F_, F_, F_, F_, F_, F_] (by kernel_rfl) rfl rfl ⟨((HB.out.cell (lc_ w _ hw217_0)).trans hw217_0), ((HB.out.cell (lc_ w _ hw218_0)).trans hw218_0)⟩ (fun hHeld => ?_); refine with_tabW spec_MailFrom.tab3 spec_MailFrom.bits3 (fun HT_ HW_ => ?_)
    generalize wc.drew = w48 at BK214 HB HR222 hx217_0 hx218_0 hHeld ⊢
    refine pure_ (i := 0) (N := some 23) (v := ?_) (a' := ?_) #[T_, F_, F_, F_, F_, F_, F_, F_, F_, F_, F_, F_, F_, F_, F_, F_, F_, F_, F_] rfl rfl (any_of HT_.out (by kernel_rfl)) (fun _ _ _ h => h) (Or.inl ⟨by rfl, ?_⟩) ?_ ?_
    rotate_left
    ·intro w'
     go_simp
     with_reducible rfl
    rotate_left
    ·simp only [Act.put, la_, lz_, ls_, i64_w, i32_w]
     rfl
    refine pure_ (i := 1) (N := some 24) (v := ?_) (a' := ?_) #[T_, T_, F_, F_, F_, F_, F_, F_, F_, F_, F_, F_, F_, F_, F_, F_, F_, F_, F_] rfl rfl (any_of HT_.out (by kernel_rfl)) (fun _ _ _ h => h) (Or.inl ⟨by rfl, ?_⟩) ?_ ?_
    rotate_left
    ·intro w'
     go_simp
     with_reducible rfl
    rotate_left
    ·simp only [Act.put, la_, lz_, ls_, i64_w, i32_w]
     rfl
    refine pure_ (i := 2) (N := some 25) (v := ?_) (a' := ?_) #[T_, T_, T_, F_, F_, F_, F_, F_, F_, F_, F_, F_, F_, F_, F_, F_, F_, F_, F_] rfl rfl (any_of HT_.out (by kernel_rfl)) (fun _ _ _ h => h) (Or.inl ⟨by rfl, ?_⟩) ?_ ?_
    rotate_left
    ·intro w'
     go_simp
     with_reducible rfl
    rotate_left
    ·simp only [Act.put, la_, lz_, ls_, i64_w, i32_w]
     rfl
    refine pure_ (i := 5) (N := some 28) (v := ?_) (a' := ?_) #[T_, T_, T_, F_, F_, T_, F_, F_, F_, F_, F_, F_, F_, F_, F_, F_, F_, F_, F_] rfl rfl (any_of HT_.out (by kernel_rfl)) (fun _ _ _ h => h) (Or.inl ⟨by rfl, ?_⟩) ?_ ?_
    rotate_left
    ·intro w'
     go_simp
     with_reducible rfl
    rotate_left
    ·simp only [Act.put, la_, lz_, ls_, i64_w, i32_w]
     rfl
    refine pure_ (i := 6) (N := some 29) (v := ?_) (a' := ?_) #[T_, T_, T_, F_, F_, T_, T_, F_, F_, F_, F_, F_, F_, F_, F_, F_, F_, F_, F_] rfl rfl (any_of HT_.out (by kernel_rfl)) (fun _ _ _ h => h) (Or.inl ⟨by rfl, ?_⟩) ?_ ?_
    rotate_left
    ·intro w'
     go_simp
     with_reducible rfl
    rotate_left
    ·simp only [Act.put, la_, lz_, ls_, i64_w, i32_w]
     rfl
    refine pure_ (i := 10) (N := some 33) (v := ?_) (a' := ?_) #[T_, T_, T_, F_, F_, T_, T_, F_, F_, F_, T_, F_, F_, F_, F_, F_, F_, F_, F_] rfl rfl (any_of HT_.out (by kernel_rfl)) (fun _ _ _ h => h) (Or.inl ⟨by rfl, ?_⟩) ?_ ?_
    rotate_left
    ·intro w'
     go_simp
     with_reducible rfl
    rotate_left
    ·simp only [Act.put, la_, lz_, ls_, i64_w, i32_w]
     rfl
    refine pure_ (i := 11) (N := some 34) (v := ?_) (a' := ?_) #[T_, T_, T_, F_, F_, T_, T_, F_, F_, F_, T_, T_, F_, F_, F_, F_, F_, F_, F_] rfl rfl (any_of HT_.out (by kernel_rfl)) (fun _ _ _ h => h) (Or.inl ⟨by rfl, ?_⟩) ?_ ?_
    rotate_left
    ·intro w'
     go_simp
     with_reducible rfl
    rotate_left
    ·simp only [Act.put, la_, lz_, ls_, i64_w, i32_w]
     rfl
    refine pure_ (i := 12) (N := some 35) (v := ?_) (a' := ?_) #[T_, T_, T_, F_, F_, T_, T_, F_, F_, F_, T_, T_, T_, F_, F_, F_, F_, F_, F_] rfl rfl (any_of HT_.out (by kernel_rfl)) (fun _ _ _ h => h) (Or.inl ⟨by rfl, ?_⟩) ?_ ?_
    rotate_left
    ·intro w'
     go_simp
     with_reducible rfl
    rotate_left
    ·simp only [Act.put, la_, lz_, ls_, i64_w, i32_w]
     rfl
    refine pure_ (i := 13) (N := some 36) (v := ?_) (a' := ?_) #[T_, T_, T_, F_, F_, T_, T_, F_, F_, F_, T_, T_, T_, T_, F_, F_, F_, F_, F_] rfl rfl (any_of HT_.out (by kernel_rfl)) (fun _ _ _ h => h) (Or.inl ⟨by rfl, ?_⟩) ?_ ?_
    rotate_left
    ·intro w'
     go_simp
     with_reducible rfl
    rotate_left
    ·simp only [Act.put, la_, lz_, ls_, i64_w, i32_w]
     rfl
    refine pure_ (i := 14) (N := some 37) (v := ?_) (a' := ?_) #[T_, T_, T_, F_, F_, T_, T_, F_, F_, F_, T_, T_, T_, T_, T_, F_, F_, F_, F_] rfl rfl (any_of HT_.out (by kernel_rfl)) (fun _ _ _ h => h) (Or.inl ⟨by rfl, ?_⟩) ?_ ?_
    rotate_left
    ·intro w'
     go_simp
     with_reducible rfl
    rotate_left
    ·simp only [Act.put, la_, lz_, ls_, i64_w, i32_w]
     rfl
    refine take_ (i := 3) (N := some 26) (v := ?_) (a' := ?_) #[T_, T_, T_, T_, F_, T_, T_, F_, F_, F_, T_, T_, T_, T_, T_, F_, F_, F_, F_] rfl rfl (take_ofW HT_.out HW_.out (by kernel_rfl)) (fun _ _ _ h => h) (Or.inl ⟨by rfl, ?_⟩) hHeld ?_ ?_
    rotate_left
    ·rintro w' ⟨s0, s1⟩
     go_simp
     with_reducible rfl
    rotate_left
    ·simp only [Act.put, la_, lz_, ls_, i64_w, i32_w]
     rfl
    refine pure_ (i := 4) (N := some 27) (v := ?_) (a' := ?_) #[T_, T_, T_, T_, T_, T_, T_, F_, F_, F_, T_, T_, T_, T_, T_, F_, F_, F_, F_] rfl rfl (any_of HT_.out (by kernel_rfl)) (fun _ _ _ h => h) (Or.inl ⟨by rfl, ?_⟩) ?_ ?_
    rotate_left
    ·intro w'
     go_simp
     with_reducible rfl
    rotate_left
    ·simp only [Act.put, la_, lz_, ls_, i64_w, i32_w]
     rfl
    refine take_ (i := 7) (N := some 30) (v := ?_) (a' := ?_) #[T_, T_, T_, T_, T_, T_, T_, T_, F_, F_, T_, T_, T_, T_, T_, F_, F_, F_, F_] rfl rfl (take_ofW HT_.out HW_.out (by kernel_rfl)) (fun _ _ _ h => h) (Or.inl ⟨by rfl, ?_⟩) hHeld ?_ ?_
    rotate_left
    ·rintro w' ⟨s0, s1⟩
     go_simp
     with_reducible rfl
    rotate_left
    ·simp only [Act.put, la_, lz_, ls_, i64_w, i32_w]
     rfl
    refine pure_ (i := 8) (N := some 31) (v := ?_) (a' := ?_) #[T_, T_, T_, T_, T_, T_, T_, T_, T_, F_, T_, T_, T_, T_, T_, F_, F_, F_, F_] rfl rfl (any_of HT_.out (by kernel_rfl)) (fun _ _ _ h => h) (Or.inl ⟨by rfl, ?_⟩) ?_ ?_
    rotate_left
    ·intro w'
     go_simp
     with_reducible rfl
    rotate_left
    ·simp only [Act.put, la_, lz_, ls_, i64_w, i32_w]
     rfl
    refine join_ (σ := Value × Value × Nat) 1 #[T_, T_, T_, T_, T_, T_, T_, T_, T_, T_, T_, T_, T_, T_, T_, T_, T_, T_, F_] (fun s_ => [(32, s_.1), (38, s_.2.1), (8, .pointer (some ⟨s_.2.2, 0, none⟩)), (39, .agg #[.int .i64 a0, .int .i64 (wrap64 (rd l2 0)), .int .i64 (wrap64 (rd l2 1)), s_.2.1])]) (fun s_ w' => (w'.cell? ad217 = some (.int .u8 (rd l2 0)) ∧ w'.cell? ⟨ad217.block, ad217.off + 1, none⟩ = some (.int .u8 (rd l2 1))) ∧ (Kd.R (Kd.int .u8) 5 w' w.heap.size (fun _ => True) s_.2.1 y223) ∧ (w'.heap[gb214]? = some (.cells #[.int .i64 0, .int .i64 0, .int .i64 0, .slice none 0 0] 27 (0, 0))) ∧ (w'.heap[s_.2.2]? = some (.cells #[.int .i64 0, .int .i64 0, .int .i64 0, .slice none 0 0] 27 (0, 0))) ∧ (w.heap.size ≤ s_.2.2) ∧ (w.heap.size ≤ s_.2.2) ∧ (gb214 ≠ s_.2.2) ∧ (s_.2.2 ≠ gb214) ∧ (Below w.heap.size w w')) ?_ ?_
    rotate_left
    ·intro hCont
     refine two_ (i := 9) (j := 17) (Ni := some 32) (Nj := some 8) #[T_, T_, T_, T_, T_, T_, T_, T_, T_, T_, T_, T_, T_, T_, T_, F_, F_, F_, F_] #[T_, T_, T_, T_, T_, T_, T_, T_, T_, F_, T_, T_, T_, T_, T_, F_, F_, T_, F_] rfl rfl rfl rfl (two_of HT_.out (by kernel_rfl)) (by decide) (by decide) (fun K hK => ?_) (fun K hK => ?_)
     ·skip
      refine Kd.R_lit_step (Kd.int .u8) _ 5 ?hg (N := 32) ?hd (xs := ([] : List Int)) (inner := []) (ok := fun _ => True) (okp := fun _ => True) ?hr ?hp (fun _ hk => hk) trivial (Below.refl _ _) (Nat.le_refl _) (by simp) ?_; (case hd => rfl); (case hg => rfl); (case hr => first | (go_simp; done) | (go_simp; rfl)); (case hp => exact (Reps.none _ _))
      intro v220 w50 ho51 hb hg_ hnew_
      clear hg_ hnew_
      (first | rw [← Ny219.out] at ho51 | (simp only [Int.reduceToNat] at ho51; rw [← Ny219.out] at ho51))
      have n0_ := mk_ (Kd.R_lower ho51 (below_size (us_ HB.out)))
      have n1_ := mk_ (blk_below (u_ BK214.out) hb)
      have n2_ := mk_ (below_step (us_ HB.out) hb)
      clear BK214
      clear HB
      have HO221 := n0_
      have BK214 := n1_
      have HB := n2_
      clear n0_ n1_ n2_
      clear hb ho51
      refine hK.out _ _ ⟨((HB.out.cell (lc_ w _ hw217_0)).trans hw217_0), ((HB.out.cell (lc_ w _ hw218_0)).trans hw218_0)⟩ (fun hHeld => ?_)
      clear hK K
      refine norm_ (a' := ?_) ?_ ?_
      rotate_left
      ·show Act.put _ (some 32) _ = _
       simp only [Act.put, la_, lz_, ls_, i64_w, i32_w]
       rfl
      refine two_ (i := 15) (j := 17) (Ni := some 38) (Nj := some 8) #[T_, T_, T_, T_, T_, T_, T_, T_, T_, T_, T_, T_, T_, T_, T_, T_, F_, F_, F_] #[T_, T_, T_, T_, T_, T_, T_, T_, T_, T_, T_, T_, T_, T_, T_, F_, F_, T_, F_] rfl rfl rfl rfl (two_of HT_.out (by kernel_rfl)) (by decide) (by decide) (fun K hK => ?_) (fun K hK => ?_)
      ·skip
       refine Kd.R_append_rows_step (Kd.int .u8) (w0 := w) w.heap.size (by rfl) (.tmp 32) (.tmp 37) 22 5 (.int .u8 0) 1 rfl Try.underlying22 info5 rfl (by decide) (by omega) v220 y219 ((l2.take ((ji22) : Int).toNat).drop 3) _ _ _ (fun _ => True) (fun _ => False) rfl rfl ?aO ?aR (fun _ _ h => h) (fun _ h => h.elim) ?aF ?aB ?aS ?aL ?_
       (case aR => first | (have e_ := (Kd.C_below HR222.out HB.out); rw [show ((l2.take ((ji22) : Int).toNat).drop 3).length = ((ji22).toNat - 3) from (by rw [List.length_drop, List.length_take]; have h_ : ((ji22) : Int) ≤ (l2.length : Int) := of_decide_eq_true (by first | (with_reducible assumption) | assumption); omega)] at e_; exact e_) | (rw [← show ((l2.take ((ji22) : Int).toNat).drop 3).length = ((ji22).toNat - 3) from (by rw [List.length_drop, List.length_take]; have h_ : ((ji22) : Int) ≤ (l2.length : Int) := of_decide_eq_true (by first | (with_reducible assumption) | assumption); omega)]; repeat (first | exact (Kd.C_below HR222.out HB.out) | (with_reducible refine Kd.C_alloc ?_ _) | (with_reducible refine Kd.C_drewN ?_ _) | (with_reducible refine Kd.C_drew ?_))) | (repeat (first | exact (Kd.C_below HR222.out HB.out) | (with_reducible refine Kd.C_alloc ?_ _) | (with_reducible refine Kd.C_drewN ?_ _) | (with_reducible refine Kd.C_drew ?_))))
       (case aB => exact (us_ HB.out))
       (case aF => exact (fun _ _ => trivial))
       (case aO => exact (Kd.ur_ HO221.out))
       (case aS => exact (below_size (us_ HB.out)))
       (case aL => have := LMc16.out; have hlx_ := (show ((l2.take ((ji22) : Int).toNat).drop 3).length = ((ji22).toNat - 3) from (by rw [List.length_drop, List.length_take]; have h_ : ((ji22) : Int) ≤ (l2.length : Int) := of_decide_eq_true (by first | (with_reducible assumption) | assumption); omega)); omega)
       intro v224 w52 ho hb hg hat
       rw [← Ny223.out] at ho
       have n0_ := mk_ (blk_grown (g := gb214) (o := .cells #[.int .i64 0, .int .i64 0, .int .i64 0, .slice none 0 0] 27 (0, 0)) (u_ BK214.out) hg (Kd.R_ne HO221.out BK214.out (by decide)))
       have n1_ := mk_ (hb)
       have n2_ := mk_ (ho)
       clear BK214
       clear HB
       clear HO221
       have BK214 := n0_
       have HB := n1_
       have HO225 := n2_
       clear n0_ n1_ n2_
       clear ho hb hg hat
       obtain ⟨Ao53, co53, eo53⟩ := Kd.R_slice HO225.out
       (first | subst eo53 | (injection eo53 with f1_ f2_ f3_; have f4_ := f1_.symm; have f5_ := f3_.symm; clear f1_ f2_ f3_; subst f4_; subst f5_))
       refine hK.out _ _ ⟨((HB.out.cell (lc_ w _ hw217_0)).trans hw217_0), ((HB.out.cell (lc_ w _ hw218_0)).trans hw218_0)⟩ (fun hHeld => ?_)
       clear hK K
       refine norm_ (a' := ?_) ?_ ?_
       rotate_left
       ·show Act.put _ (some 38) _ = _
        simp only [Act.put, la_, lz_, ls_, i64_w, i32_w]
        rfl
       refine pure_ (i := 16) (N := some 39) (v := ?_) (a' := ?_) #[T_, T_, T_, T_, T_, T_, T_, T_, T_, T_, T_, T_, T_, T_, T_, T_, T_, F_, F_] rfl rfl (any_of HT_.out (by kernel_rfl)) (fun _ _ _ h => h) (Or.inl ⟨by rfl, ?_⟩) ?_ ?_
       rotate_left
       ·intro w'
        go_simp
        with_reducible rfl
       rotate_left
       ·simp only [Act.put, la_, lz_, ls_, i64_w, i32_w]
        rfl
       refine one_ (i := 17) (N := some 8) #[T_, T_, T_, T_, T_, T_, T_, T_, T_, T_, T_, T_, T_, T_, T_, T_, T_, T_, F_] rfl rfl (one_of HT_.out (by kernel_rfl)) (by decide) (fun K hK => ?_)
       refine box_step ?hg (N := 8) ?hd (cs := #[.int .i64 0, .int .i64 0, .int .i64 0, .slice none 0 0]) (t := 27) ?hr ?_; (case hd => rfl); (case hg => rfl); (case hr => first | (go_simp; done) | (go_simp; rfl))
       intro gb226 hg w54 hbox hb
       have n0_ := mk_ (Kd.R_below (Kd.ur_ HO225.out) hb)
       have n1_ := mk_ (blk_below (u_ BK214.out) hb)
       have n2_ := mk_ (below_step (us_ HB.out) hb)
       have n3_ := mk_ (hbox)
       have n4_ := mk_ ((by rw [hg]; exact (below_size (us_ HB.out)) : w.heap.size ≤ gb226))
       have n5_ := mk_ ((by rw [hg]; exact (below_size (us_ HB.out)) : w.heap.size ≤ gb226))
       have n6_ := mk_ ((by rw [hg]; exact Nat.ne_of_lt (blk_lt (u_ BK214.out)) : gb214 ≠ gb226))
       have n7_ := mk_ ((by rw [hg]; exact Nat.ne_of_gt (blk_lt (u_ BK214.out)) : gb226 ≠ gb214))
       clear HO225
       clear BK214
       clear HB
       have HO225 := n0_
       have BK214 := n1_
       have HB := n2_
       have BK226 := n3_
       have GW226 := n4_
       have GE226 := ge_ n5_.out
       have NB214_226 := nq_ n6_.out
       have NB226_214 := nq_ n7_.out
       clear n0_ n1_ n2_ n3_ n4_ n5_ n6_ n7_
       clear hb hbox hg
       refine hK.out _ _ ⟨((HB.out.cell (lc_ w _ hw217_0)).trans hw217_0), ((HB.out.cell (lc_ w _ hw218_0)).trans hw218_0)⟩ (fun hHeld => ?_)
       clear hK K
       refine norm_ (a' := ?_) ?_ ?_
       rotate_left
       ·show Act.put _ (some 8) _ = _
        simp only [Act.put, la_, lz_, ls_, i64_w, i32_w]
        rfl
       exact norm_ (by simp only [putAll, Act.put, la_, lz_, ls_]) (hCont (v220, .slice Ao53 y223.length co53, gb226) _ ⟨hHeld, (Kd.ur_ HO225.out), (u_ BK214.out), (u_ BK226.out), GW226.out, GE226.out, NB214_226.out, NB226_214.out, (us_ HB.out)⟩)
      skip
      refine box_step ?hg (N := 8) ?hd (cs := #[.int .i64 0, .int .i64 0, .int .i64 0, .slice none 0 0]) (t := 27) ?hr ?_; (case hd => rfl); (case hg => rfl); (case hr => first | (go_simp; done) | (go_simp; rfl))
      intro gb226 hg w52 hbox hb
      have n0_ := mk_ (Kd.R_below (Kd.ur_ HO221.out) hb)
      have n1_ := mk_ (blk_below (u_ BK214.out) hb)
      have n2_ := mk_ (below_step (us_ HB.out) hb)
      have n3_ := mk_ (hbox)
      have n4_ := mk_ ((by rw [hg]; exact (below_size (us_ HB.out)) : w.heap.size ≤ gb226))
      have n5_ := mk_ ((by rw [hg]; exact (below_size (us_ HB.out)) : w.heap.size ≤ gb226))
      have n6_ := mk_ ((by rw [hg]; exact Nat.ne_of_lt (blk_lt (u_ BK214.out)) : gb214 ≠ gb226))
      have n7_ := mk_ ((by rw [hg]; exact Nat.ne_of_gt (blk_lt (u_ BK214.out)) : gb226 ≠ gb214))
      clear HO221
      clear BK214
      clear HB
      have HO221 := n0_
      have BK214 := n1_
      have HB := n2_
      have BK226 := n3_
      have GW226 := n4_
      have GE226 := ge_ n5_.out
      have NB214_226 := nq_ n6_.out
      have NB226_214 := nq_ n7_.out
      clear n0_ n1_ n2_ n3_ n4_ n5_ n6_ n7_
      clear hb hbox hg
      refine hK.out _ _ ⟨((HB.out.cell (lc_ w _ hw217_0)).trans hw217_0), ((HB.out.cell (lc_ w _ hw218_0)).trans hw218_0)⟩ (fun hHeld => ?_)
      clear hK K
      refine norm_ (a' := ?_) ?_ ?_
      rotate_left
      ·show Act.put _ (some 8) _ = _
       simp only [Act.put, la_, lz_, ls_, i64_w, i32_w]
       rfl
      refine one_ (i := 15) (N := some 38) #[T_, T_, T_, T_, T_, T_, T_, T_, T_, T_, T_, T_, T_, T_, T_, T_, F_, T_, F_] rfl rfl (one_of HT_.out (by kernel_rfl)) (by decide) (fun K hK => ?_)
      refine Kd.R_append_rows_step (Kd.int .u8) (w0 := w) w.heap.size (by rfl) (.tmp 32) (.tmp 37) 22 5 (.int .u8 0) 1 rfl Try.underlying22 info5 rfl (by decide) (by omega) v220 y219 ((l2.take ((ji22) : Int).toNat).drop 3) _ _ _ (fun _ => True) (fun _ => False) rfl rfl ?aO ?aR (fun _ _ h => h) (fun _ h => h.elim) ?aF ?aB ?aS ?aL ?_
      (case aR => first | (have e_ := (Kd.C_below HR222.out HB.out); rw [show ((l2.take ((ji22) : Int).toNat).drop 3).length = ((ji22).toNat - 3) from (by rw [List.length_drop, List.length_take]; have h_ : ((ji22) : Int) ≤ (l2.length : Int) := of_decide_eq_true (by first | (with_reducible assumption) | assumption); omega)] at e_; exact e_) | (rw [← show ((l2.take ((ji22) : Int).toNat).drop 3).length = ((ji22).toNat - 3) from (by rw [List.length_drop, List.length_take]; have h_ : ((ji22) : Int) ≤ (l2.length : Int) := of_decide_eq_true (by first | (with_reducible assumption) | assumption); omega)]; repeat (first | exact (Kd.C_below HR222.out HB.out) | (with_reducible refine Kd.C_alloc ?_ _) | (with_reducible refine Kd.C_drewN ?_ _) | (with_reducible refine Kd.C_drew ?_))) | (repeat (first | exact (Kd.C_below HR222.out HB.out) | (with_reducible refine Kd.C_alloc ?_ _) | (with_reducible refine Kd.C_drewN ?_ _) | (with_reducible refine Kd.C_drew ?_))))
      (case aB => exact (us_ HB.out))
      (case aF => exact (fun _ _ => trivial))
      (case aO => exact (Kd.ur_ HO221.out))
      (case aS => exact (below_size (us_ HB.out)))
      (case aL => have := LMc16.out; have hlx_ := (show ((l2.take ((ji22) : Int).toNat).drop 3).length = ((ji22).toNat - 3) from (by rw [List.length_drop, List.length_take]; have h_ : ((ji22) : Int) ≤ (l2.length : Int) := of_decide_eq_true (by first | (with_reducible assumption) | assumption); omega)); omega)
      intro v224 w53 ho hb hg hat
      rw [← Ny223.out] at ho
      have n0_ := mk_ (blk_grown (g := gb214) (o := .cells #[.int .i64 0, .int .i64 0, .int .i64 0, .slice none 0 0] 27 (0, 0)) (u_ BK214.out) hg (Kd.R_ne HO221.out BK214.out (by decide)))
      have n1_ := mk_ (blk_grown (g := gb226) (o := .cells #[.int .i64 0, .int .i64 0, .int .i64 0, .slice none 0 0] 27 (0, 0)) (u_ BK226.out) hg (Kd.R_ne HO221.out BK226.out (by decide)))
      have n2_ := mk_ (hb)
      have n3_ := mk_ (ho)
      clear BK214
      clear BK226
      clear HB
      clear HO221
      have BK214 := n0_
      have BK226 := n1_
      have HB := n2_
      have HO225 := n3_
      clear n0_ n1_ n2_ n3_
      clear ho hb hg hat
      obtain ⟨Ao54, co54, eo54⟩ := Kd.R_slice HO225.out
      (first | subst eo54 | (injection eo54 with f1_ f2_ f3_; have f4_ := f1_.symm; have f5_ := f3_.symm; clear f1_ f2_ f3_; subst f4_; subst f5_))
      refine hK.out _ _ ⟨((HB.out.cell (lc_ w _ hw217_0)).trans hw217_0), ((HB.out.cell (lc_ w _ hw218_0)).trans hw218_0)⟩ (fun hHeld => ?_)
      clear hK K
      refine norm_ (a' := ?_) ?_ ?_
      rotate_left
      ·show Act.put _ (some 38) _ = _
       simp only [Act.put, la_, lz_, ls_, i64_w, i32_w]
       rfl
      refine pure_ (i := 16) (N := some 39) (v := ?_) (a' := ?_) #[T_, T_, T_, T_, T_, T_, T_, T_, T_, T_, T_, T_, T_, T_, T_, T_, T_, T_, F_] rfl rfl (any_of HT_.out (by kernel_rfl)) (fun _ _ _ h => h) (Or.inl ⟨by rfl, ?_⟩) ?_ ?_
      rotate_left
      ·intro w'
       go_simp
       with_reducible rfl
      rotate_left
      ·simp only [Act.put, la_, lz_, ls_, i64_w, i32_w]
       rfl
      exact norm_ (by simp only [putAll, Act.put, la_, lz_, ls_]) (hCont (v220, .slice Ao54 y223.length co54, gb226) _ ⟨hHeld, (Kd.ur_ HO225.out), (u_ BK214.out), (u_ BK226.out), GW226.out, GE226.out, NB214_226.out, NB226_214.out, (us_ HB.out)⟩)
     skip
     refine box_step ?hg (N := 8) ?hd (cs := #[.int .i64 0, .int .i64 0, .int .i64 0, .slice none 0 0]) (t := 27) ?hr ?_; (case hd => rfl); (case hg => rfl); (case hr => first | (go_simp; done) | (go_simp; rfl))
     intro gb226 hg w50 hbox hb
     have n0_ := mk_ (blk_below (u_ BK214.out) hb)
     have n1_ := mk_ (below_step (us_ HB.out) hb)
     have n2_ := mk_ (hbox)
     have n3_ := mk_ ((by rw [hg]; exact (below_size (us_ HB.out)) : w.heap.size ≤ gb226))
     have n4_ := mk_ ((by rw [hg]; exact (below_size (us_ HB.out)) : w.heap.size ≤ gb226))
     have n5_ := mk_ ((by rw [hg]; exact Nat.ne_of_lt (blk_lt (u_ BK214.out)) : gb214 ≠ gb226))
     have n6_ := mk_ ((by rw [hg]; exact Nat.ne_of_gt (blk_lt (u_ BK214.out)) : gb226 ≠ gb214))
     clear BK214
     clear HB
     have BK214 := n0_
     have HB := n1_
     have BK226 := n2_
     have GW226 := n3_
     have GE226 := ge_ n4_.out
     have NB214_226 := nq_ n5_.out
     have NB226_214 := nq_ n6_.out
     clear n0_ n1_ n2_ n3_ n4_ n5_ n6_
     clear hb hbox hg
     refine hK.out _ _ ⟨((HB.out.cell (lc_ w _ hw217_0)).trans hw217_0), ((HB.out.cell (lc_ w _ hw218_0)).trans hw218_0)⟩ (fun hHeld => ?_)
     clear hK K
     refine norm_ (a' := ?_) ?_ ?_
     rotate_left
     ·show Act.put _ (some 8) _ = _
      simp only [Act.put, la_, lz_, ls_, i64_w, i32_w]
      rfl
     refine one_ (i := 9) (N := some 32) #[T_, T_, T_, T_, T_, T_, T_, T_, T_, T_, T_, T_, T_, T_, T_, F_, F_, T_, F_] rfl rfl (one_of HT_.out (by kernel_rfl)) (by decide) (fun K hK => ?_)
     refine Kd.R_lit_step (Kd.int .u8) _ 5 ?hg (N := 32) ?hd (xs := ([] : List Int)) (inner := []) (ok := fun _ => True) (okp := fun _ => True) ?hr ?hp (fun _ hk => hk) trivial (Below.refl _ _) (Nat.le_refl _) (by simp) ?_; (case hd => rfl); (case hg => rfl); (case hr => first | (go_simp; done) | (go_simp; rfl)); (case hp => exact (Reps.none _ _))
     intro v220 w51 ho52 hb hg_ hnew_
     clear hg_ hnew_
     (first | rw [← Ny219.out] at ho52 | (simp only [Int.reduceToNat] at ho52; rw [← Ny219.out] at ho52))
     have n0_ := mk_ (Kd.R_lower ho52 (below_size (us_ HB.out)))
     have n1_ := mk_ (blk_below (u_ BK214.out) hb)
     have n2_ := mk_ (blk_below (u_ BK226.out) hb)
     have n3_ := mk_ (below_step (us_ HB.out) hb)
     clear BK214
     clear BK226
     clear HB
     have HO221 := n0_
     have BK214 := n1_
     have BK226 := n2_
     have HB := n3_
     clear n0_ n1_ n2_ n3_
     clear hb ho52
     refine hK.out _ _ ⟨((HB.out.cell (lc_ w _ hw217_0)).trans hw217_0), ((HB.out.cell (lc_ w _ hw218_0)).trans hw218_0)⟩ (fun hHeld => ?_)
     clear hK K
     refine norm_ (a' := ?_) ?_ ?_
     rotate_left
     ·show Act.put _ (some 32) _ = _
      simp only [Act.put, la_, lz_, ls_, i64_w, i32_w]
      rfl
     refine one_ (i := 15) (N := some 38) #[T_, T_, T_, T_, T_, T_, T_, T_, T_, T_, T_, T_, T_, T_, T_, T_, F_, T_, F_] rfl rfl (one_of HT_.out (by kernel_rfl)) (by decide) (fun K hK => ?_)
     refine Kd.R_append_rows_step (Kd.int .u8) (w0 := w) w.heap.size (by rfl) (.tmp 32) (.tmp 37) 22 5 (.int .u8 0) 1 rfl Try.underlying22 info5 rfl (by decide) (by omega) v220 y219 ((l2.take ((ji22) : Int).toNat).drop 3) _ _ _ (fun _ => True) (fun _ => False) rfl rfl ?aO ?aR (fun _ _ h => h) (fun _ h => h.elim) ?aF ?aB ?aS ?aL ?_
     (case aR => first | (have e_ := (Kd.C_below HR222.out HB.out); rw [show ((l2.take ((ji22) : Int).toNat).drop 3).length = ((ji22).toNat - 3) from (by rw [List.length_drop, List.length_take]; have h_ : ((ji22) : Int) ≤ (l2.length : Int) := of_decide_eq_true (by first | (with_reducible assumption) | assumption); omega)] at e_; exact e_) | (rw [← show ((l2.take ((ji22) : Int).toNat).drop 3).length = ((ji22).toNat - 3) from (by rw [List.length_drop, List.length_take]; have h_ : ((ji22) : Int) ≤ (l2.length : Int) := of_decide_eq_true (by first | (with_reducible assumption) | assumption); omega)]; repeat (first | exact (Kd.C_below HR222.out HB.out) | (with_reducible refine Kd.C_alloc ?_ _) | (with_reducible refine Kd.C_drewN ?_ _) | (with_reducible refine Kd.C_drew ?_))) | (repeat (first | exact (Kd.C_below HR222.out HB.out) | (with_reducible refine Kd.C_alloc ?_ _) | (with_reducible refine Kd.C_drewN ?_ _) | (with_reducible refine Kd.C_drew ?_))))
     (case aB => exact (us_ HB.out))
     (case aF => exact (fun _ _ => trivial))
     (case aO => exact (Kd.ur_ HO221.out))
     (case aS => exact (below_size (us_ HB.out)))
     (case aL => have := LMc16.out; have hlx_ := (show ((l2.take ((ji22) : Int).toNat).drop 3).length = ((ji22).toNat - 3) from (by rw [List.length_drop, List.length_take]; have h_ : ((ji22) : Int) ≤ (l2.length : Int) := of_decide_eq_true (by first | (with_reducible assumption) | assumption); omega)); omega)
     intro v224 w53 ho hb hg hat
     rw [← Ny223.out] at ho
     have n0_ := mk_ (blk_grown (g := gb214) (o := .cells #[.int .i64 0, .int .i64 0, .int .i64 0, .slice none 0 0] 27 (0, 0)) (u_ BK214.out) hg (Kd.R_ne HO221.out BK214.out (by decide)))
     have n1_ := mk_ (blk_grown (g := gb226) (o := .cells #[.int .i64 0, .int .i64 0, .int .i64 0, .slice none 0 0] 27 (0, 0)) (u_ BK226.out) hg (Kd.R_ne HO221.out BK226.out (by decide)))
     have n2_ := mk_ (hb)
     have n3_ := mk_ (ho)
     clear BK214
     clear BK226
     clear HB
     clear HO221
     have BK214 := n0_
     have BK226 := n1_
     have HB := n2_
     have HO225 := n3_
     clear n0_ n1_ n2_ n3_
     clear ho hb hg hat
     obtain ⟨Ao54, co54, eo54⟩ := Kd.R_slice HO225.out
     (first | subst eo54 | (injection eo54 with f1_ f2_ f3_; have f4_ := f1_.symm; have f5_ := f3_.symm; clear f1_ f2_ f3_; subst f4_; subst f5_))
     refine hK.out _ _ ⟨((HB.out.cell (lc_ w _ hw217_0)).trans hw217_0), ((HB.out.cell (lc_ w _ hw218_0)).trans hw218_0)⟩ (fun hHeld => ?_)
     clear hK K
     refine norm_ (a' := ?_) ?_ ?_
     rotate_left
     ·show Act.put _ (some 38) _ = _
      simp only [Act.put, la_, lz_, ls_, i64_w, i32_w]
      rfl
     refine pure_ (i := 16) (N := some 39) (v := ?_) (a' := ?_) #[T_, T_, T_, T_, T_, T_, T_, T_, T_, T_, T_, T_, T_, T_, T_, T_, T_, T_, F_] rfl rfl (any_of HT_.out (by kernel_rfl)) (fun _ _ _ h => h) (Or.inl ⟨by rfl, ?_⟩) ?_ ?_
     rotate_left
     ·intro w'
      go_simp
      with_reducible rfl
     rotate_left
     ·simp only [Act.put, la_, lz_, ls_, i64_w, i32_w]
      rfl
     exact norm_ (by simp only [putAll, Act.put, la_, lz_, ls_]) (hCont (v220, .slice Ao54 y223.length co54, gb226) _ ⟨hHeld, (Kd.ur_ HO225.out), (u_ BK214.out), (u_ BK226.out), GW226.out, GE226.out, NB214_226.out, NB226_214.out, (us_ HB.out)⟩)
    rintro ⟨v220, v224, gb226⟩ w55 ⟨hS_, h0_, h1_, h2_, h3_, h4_, h5_, h6_, h7_⟩
    have n0_ : Aside0 (Kd.R (Kd.int .u8) 5 w55 w.heap.size (fun _ => True) v224 y223) := ⟨h0_⟩
    have n1_ : Aside0 (w55.heap[gb214]? = some (.cells #[.int .i64 0, .int .i64 0, .int .i64 0, .slice none 0 0] 27 (0, 0))) := ⟨h1_⟩
    have n2_ : Aside0 (w55.heap[gb226]? = some (.cells #[.int .i64 0, .int .i64 0, .int .i64 0, .slice none 0 0] 27 (0, 0))) := ⟨h2_⟩
    have n3_ : Aside0 (w.heap.size ≤ gb226) := ⟨h3_⟩
    have n4_ : Aside0 (w.heap.size ≤ gb226) := ⟨h4_⟩
    have n5_ : Aside0 (gb214 ≠ gb226) := ⟨h5_⟩
    have n6_ : Aside0 (gb226 ≠ gb214) := ⟨h6_⟩
    have n7_ : Aside0 (Below w.heap.size w w55) := ⟨h7_⟩
    clear BK214
    clear HB
    clear h0_ h1_ h2_ h3_ h4_ h5_ h6_ h7_
    have HO225 := n0_
    have BK214 := n1_
    have BK226 := n2_
    have GW226 := n3_
    have GE226 := ge_ n4_.out
    have NB214_226 := nq_ n5_.out
    have NB226_214 := nq_ n6_.out
    have HB := n7_
    clear n0_ n1_ n2_ n3_ n4_ n5_ n6_ n7_
    have hHeld : w55.cell? ad217 = some (.int .u8 (rd l2 0)) ∧ w55.cell? ⟨ad217.block, ad217.off + 1, none⟩ = some (.int .u8 (rd l2 1)) := hS_
    obtain ⟨Ao56, co56, eo56⟩ := Kd.R_slice HO225.out
    (first | subst eo56 | (injection eo56 with f1_ f2_ f3_; have f4_ := f1_.symm; have f5_ := f3_.symm; clear f1_ f2_ f3_; subst f4_; subst f5_))
    refine norm_ (a' := ?_) ?_ ?_
    rotate_left
    ·simp only [putAll, Act.put, la_, lz_, ls_]
     rfl
    refine one_ (i := 18) (N := none) #[T_, T_, T_, T_, T_, T_, T_, T_, T_, T_, T_, T_, T_, T_, T_, T_, T_, T_, T_] rfl rfl (one_of HT_.out (by kernel_rfl)) (by decide) (fun K hK => ?_)
    have hs57 : w55.cell? ⟨gb226, 0, none⟩ = some (.int .i64 0) := (blk_cell BK226.out 0).trans rfl
    have hfs57 := blk_frozen BK226.out 0
    have hns57_0 := NB214_226.out
    have hms57_0 := NB226_214.out
    have hs58 : w55.cell? ⟨gb226, 1, none⟩ = some (.int .i64 0) := (blk_cell BK226.out 1).trans rfl
    have hfs58 := blk_frozen BK226.out 1
    have hns58_0 := NB214_226.out
    have hms58_0 := NB226_214.out
    have hs59 : w55.cell? ⟨gb226, 2, none⟩ = some (.int .i64 0) := (blk_cell BK226.out 2).trans rfl
    have hfs59 := blk_frozen BK226.out 2
    have hns59_0 := NB214_226.out
    have hms59_0 := NB226_214.out
    have hs60 : w55.cell? ⟨gb226, 3, none⟩ = some (.slice none 0 0) := (blk_cell BK226.out 3).trans rfl
    have hfs60 := blk_frozen BK226.out 3
    have hns60_0 := NB214_226.out
    have hms60_0 := NB226_214.out
    refine skip_ (w1 := ?_) (by rfl) rfl ?_ ?_
    rotate_left
    ·go_simp
     rfl
    refine hK.out _ _ ⟨((cell_far (p := ⟨gb226, _, none⟩) (by first | exact (ne1_ (by have := lc_ _ _ hw217_0; first | rwa [add_block] at this | exact this) GW226.out) | (rw [add_block]; exact (ne1_ (by have := lc_ _ _ hw217_0; first | rwa [add_block] at this | exact this) GW226.out)) | (show (Addr.add _ _).block ≠ _; rw [add_block]; exact (ne1_ (by have := lc_ _ _ hw217_0; first | rwa [add_block] at this | exact this) GW226.out)) | (dsimp only; exact (ne1_ (by have := lc_ _ _ hw217_0; first | rwa [add_block] at this | exact this) GW226.out))) _).trans (((cell_far (p := ⟨gb226, _, none⟩) (by first | exact (ne1_ (by have := lc_ _ _ hw217_0; first | rwa [add_block] at this | exact this) GW226.out) | (rw [add_block]; exact (ne1_ (by have := lc_ _ _ hw217_0; first | rwa [add_block] at this | exact this) GW226.out)) | (show (Addr.add _ _).block ≠ _; rw [add_block]; exact (ne1_ (by have := lc_ _ _ hw217_0; first | rwa [add_block] at this | exact this) GW226.out)) | (dsimp only; exact (ne1_ (by have := lc_ _ _ hw217_0; first | rwa [add_block] at this | exact this) GW226.out))) _).trans (((cell_far (p := ⟨gb226, _, none⟩) (by first | exact (ne1_ (by have := lc_ _ _ hw217_0; first | rwa [add_block] at this | exact this) GW226.out) | (rw [add_block]; exact (ne1_ (by have := lc_ _ _ hw217_0; first | rwa [add_block] at this | exact this) GW226.out)) | (show (Addr.add _ _).block ≠ _; rw [add_block]; exact (ne1_ (by have := lc_ _ _ hw217_0; first | rwa [add_block] at this | exact this) GW226.out)) | (dsimp only; exact (ne1_ (by have := lc_ _ _ hw217_0; first | rwa [add_block] at this | exact this) GW226.out))) _).trans (((cell_far (p := ⟨gb226, _, none⟩) (by first | exact (ne1_ (by have := lc_ _ _ hw217_0; first | rwa [add_block] at this | exact this) GW226.out) | (rw [add_block]; exact (ne1_ (by have := lc_ _ _ hw217_0; first | rwa [add_block] at this | exact this) GW226.out)) | (show (Addr.add _ _).block ≠ _; rw [add_block]; exact (ne1_ (by have := lc_ _ _ hw217_0; first | rwa [add_block] at this | exact this) GW226.out)) | (dsimp only; exact (ne1_ (by have := lc_ _ _ hw217_0; first | rwa [add_block] at this | exact this) GW226.out))) _).trans (hHeld.1)))))))), ((cell_far (p := ⟨gb226, _, none⟩) (by first | exact (ne1_ (by have := lc_ _ _ hw218_0; first | rwa [add_block] at this | exact this) GW226.out) | (rw [add_block]; exact (ne1_ (by have := lc_ _ _ hw218_0; first | rwa [add_block] at this | exact this) GW226.out)) | (show (Addr.add _ _).block ≠ _; rw [add_block]; exact (ne1_ (by have := lc_ _ _ hw218_0; first | rwa [add_block] at this | exact this) GW226.out)) | (dsimp only; exact (ne1_ (by have := lc_ _ _ hw218_0; first | rwa [add_block] at this | exact this) GW226.out))) _).trans (((cell_far (p := ⟨gb226, _, none⟩) (by first | exact (ne1_ (by have := lc_ _ _ hw218_0; first | rwa [add_block] at this | exact this) GW226.out) | (rw [add_block]; exact (ne1_ (by have := lc_ _ _ hw218_0; first | rwa [add_block] at this | exact this) GW226.out)) | (show (Addr.add _ _).block ≠ _; rw [add_block]; exact (ne1_ (by have := lc_ _ _ hw218_0; first | rwa [add_block] at this | exact this) GW226.out)) | (dsimp only; exact (ne1_ (by have := lc_ _ _ hw218_0; first | rwa [add_block] at this | exact this) GW226.out))) _).trans (((cell_far (p := ⟨gb226, _, none⟩) (by first | exact (ne1_ (by have := lc_ _ _ hw218_0; first | rwa [add_block] at this | exact this) GW226.out) | (rw [add_block]; exact (ne1_ (by have := lc_ _ _ hw218_0; first | rwa [add_block] at this | exact this) GW226.out)) | (show (Addr.add _ _).block ≠ _; rw [add_block]; exact (ne1_ (by have := lc_ _ _ hw218_0; first | rwa [add_block] at this | exact this) GW226.out)) | (dsimp only; exact (ne1_ (by have := lc_ _ _ hw218_0; first | rwa [add_block] at this | exact this) GW226.out))) _).trans (((cell_far (p := ⟨gb226, _, none⟩) (by first | exact (ne1_ (by have := lc_ _ _ hw218_0; first | rwa [add_block] at this | exact this) GW226.out) | (rw [add_block]; exact (ne1_ (by have := lc_ _ _ hw218_0; first | rwa [add_block] at this | exact this) GW226.out)) | (show (Addr.add _ _).block ≠ _; rw [add_block]; exact (ne1_ (by have := lc_ _ _ hw218_0; first | rwa [add_block] at this | exact this) GW226.out)) | (dsimp only; exact (ne1_ (by have := lc_ _ _ hw218_0; first | rwa [add_block] at this | exact this) GW226.out))) _).trans (hHeld.2))))))))⟩ (fun hHeld => ?_)
    clear hK K
    refine done_ (done_of HT_.out (by kernel_rfl)) ?_
    obtain ⟨i061, hi061, _, hsz61, _⟩ := info_parts info5
    obtain ⟨hcut61, hA61, hC61⟩ := print_take_of (P := Try.prog) (Value.int .u8) 0 22 5 .i64 Try.underlying22 hi061 hsz61 (some ad217) c2 l2 (ji22) (of_decide_eq_true (by first | (with_reducible assumption) | assumption)) (of_decide_eq_true (by first | (with_reducible assumption) | assumption)) HC2.out
    have HR230 := mk_ (Kd.C_of_reads (h1 := fun _ => rfl) (hA61 _ (Kd.reads_of_C HR2.out)))
    have HC230 := mk_ hC61
    clear hA61 hC61 hi061 hsz61
    try go_wp2
    have n0_ : Aside0 (Kd.R (Kd.int .u8) 5 ((((w55.setCell ⟨gb226, 0, none⟩ (.int .i64 a0)).setCell ⟨gb226, 1, none⟩ (.int .i64 (wrap64 (rd l2 0)))).setCell ⟨gb226, 2, none⟩ (.int .i64 (wrap64 (rd l2 1)))).setCell ⟨gb226, 3, none⟩ (.slice Ao56 y223.length co56)) w.heap.size (fun _ => True) (.slice Ao56 y223.length co56) y223) := ⟨by (with_reducible repeat (first | apply Kd.R_alloc | apply Kd.R_drewN | apply Kd.R_drew)); exact Kd.R_mono (Kd.R_far (p := ⟨gb226, 3, none⟩) (Kd.R_far (p := ⟨gb226, 2, none⟩) (Kd.R_far (p := ⟨gb226, 1, none⟩) (Kd.R_far (p := ⟨gb226, 0, none⟩) (Kd.R_types HO225.out BK226.out (by decide)) (fun _ hk => hk.2) (.int .i64 a0)) (fun _ hk => hk.2) (.int .i64 (wrap64 (rd l2 0)))) (fun _ hk => hk.2) (.int .i64 (wrap64 (rd l2 1)))) (fun _ hk => hk.2) (.slice Ao56 y223.length co56)) (fun _ hk => trivial)⟩
    have n1_ : Aside0 (((((w55.setCell ⟨gb226, 0, none⟩ (.int .i64 a0)).setCell ⟨gb226, 1, none⟩ (.int .i64 (wrap64 (rd l2 0)))).setCell ⟨gb226, 2, none⟩ (.int .i64 (wrap64 (rd l2 1)))).setCell ⟨gb226, 3, none⟩ (.slice Ao56 y223.length co56)).heap[gb214]? = some (.cells #[.int .i64 0, .int .i64 0, .int .i64 0, .slice none 0 0] 27 (0, 0))) := ⟨uf_ BK214.out⟩
    have n2_ : Aside0 (((((w55.setCell ⟨gb226, 0, none⟩ (.int .i64 a0)).setCell ⟨gb226, 1, none⟩ (.int .i64 (wrap64 (rd l2 0)))).setCell ⟨gb226, 2, none⟩ (.int .i64 (wrap64 (rd l2 1)))).setCell ⟨gb226, 3, none⟩ (.slice Ao56 y223.length co56)).heap[gb226]? = some (.cells #[.int .i64 a0, .int .i64 (wrap64 (rd l2 0)), .int .i64 (wrap64 (rd l2 1)), .slice Ao56 y223.length co56] 27 (0, 0))) := ⟨by (with_reducible repeat (first | refine bn_ ?_ _ | refine bw_ ?_ | refine ba_ ?_ _)); refine blk_put (cs := #[.int .i64 a0, .int .i64 (wrap64 (rd l2 0)), .int .i64 (wrap64 (rd l2 1)), .slice none 0 0]) ?_ 3 _ rfl; (with_reducible repeat (first | refine bn_ ?_ _ | refine bw_ ?_ | refine ba_ ?_ _)); refine blk_put (cs := #[.int .i64 a0, .int .i64 (wrap64 (rd l2 0)), .int .i64 0, .slice none 0 0]) ?_ 2 _ rfl; (with_reducible repeat (first | refine bn_ ?_ _ | refine bw_ ?_ | refine ba_ ?_ _)); refine blk_put (cs := #[.int .i64 a0, .int .i64 0, .int .i64 0, .slice none 0 0]) ?_ 1 _ rfl; (with_reducible repeat (first | refine bn_ ?_ _ | refine bw_ ?_ | refine ba_ ?_ _)); refine blk_put (cs := #[.int .i64 0, .int .i64 0, .int .i64 0, .slice none 0 0]) ?_ 0 _ rfl; (with_reducible repeat (first | refine bn_ ?_ _ | refine bw_ ?_ | refine ba_ ?_ _)); exact BK226.out⟩
    have n3_ : Aside0 (Below w.heap.size w ((((w55.setCell ⟨gb226, 0, none⟩ (.int .i64 a0)).setCell ⟨gb226, 1, none⟩ (.int .i64 (wrap64 (rd l2 0)))).setCell ⟨gb226, 2, none⟩ (.int .i64 (wrap64 (rd l2 1)))).setCell ⟨gb226, 3, none⟩ (.slice Ao56 y223.length co56))) := ⟨us_ HB.out⟩
    (try clear HO225)
    (try clear BK214)
    (try clear BK226)
    (try clear HB)
    generalize ((((w55.setCell ⟨gb226, 0, none⟩ (.int .i64 a0)).setCell ⟨gb226, 1, none⟩ (.int .i64 (wrap64 (rd l2 0)))).setCell ⟨gb226, 2, none⟩ (.int .i64 (wrap64 (rd l2 1)))).setCell ⟨gb226, 3, none⟩ (.slice Ao56 y223.length co56)) = w62 at n0_ n1_ n2_ n3_ ⊢
    have HO225 := n0_
    have BK214 := n1_
    have BK226 := n2_
    have HB := n3_
    clear n0_ n1_ n2_ n3_
    have n0_ := mk_ (Kd.R_drew HO225.out)
    have n1_ := mk_ (blk_drew BK214.out)
    have n2_ := mk_ (blk_drew BK226.out)
    have n3_ := mk_ (below_drew1 HB.out)
    clear HO225
    clear BK214
    clear BK226
    clear HB
    have HO225 := n0_
    have BK214 := n1_
    have BK226 := n2_
    have HB := n3_
    clear n0_ n1_ n2_ n3_
    have p228 : 0 ≤ (2 : Int) := (by omega)
    have q228 : 2 < (l2.length : Int) := of_decide_eq_true (by first | (with_reducible assumption) | assumption)
    obtain ⟨ad228, e228, hx228_0⟩ := Kd.at_int HR2.out 2 p228 q228
    have hw228_0 := hx228_0
    (try rw [show ((2 : Int)).toNat = 2 from rfl] at hw228_0)
    (try rw [show 2 * 1 = 2 from rfl] at hw228_0)
    (try simp only [Nat.reduceMul, Nat.reduceEqDiff, Go.Addr.add, ↓reduceIte] at hw228_0)
    obtain rfl : ad217 = ad228 := (by injection e228)
    (try simp only [show (2 : Int).toNat = 2 from rfl, Nat.reduceMul, Nat.reduceEqDiff, Go.Addr.add, ↓reduceIte] at hx228_0)
    have qi228 : (2 < l2.length) = True := eq_true (by omega)
    (try rw [show ((2 : Int)).toNat = 2 from rfl] at hx228_0)
    replace hx228_0 := (HB.out.cell (lc_ w _ hx228_0)).trans hx228_0
    replace p228 := eq_true p228
    replace q228 := eq_true q228
    refine start_ (n := 29) (S := fun w' => w'.cell? ⟨gb226, 0, none⟩ = some (.int .i64 a0) ∧ w'.cell? ⟨gb226, 1, none⟩ = some (.int .i64 (wrap64 (rd l2 0))) ∧ w'.cell? ⟨gb226, 2, none⟩ = some (.int .i64 (wrap64 (rd l2 1))) ∧ w'.cell? ⟨gb226, 3, none⟩ = some (.slice Ao56 y223.length co56) ∧ w'.cell? ⟨ad217.block, ad217.off + 2, none⟩ = some (.int .u8 (rd l2 2))) (ds := []) #[F_, F_, F_, F_, F_, F_, F_, F_, F_, F_, F_, F_, F_, F_, F_, F_, F_, F_, F_, F_, F_, F_, F_, F_, F_, F_, F_, F_, F_] (by kernel_rfl) rfl rfl ⟨(blk_cell BK226.out 0).trans rfl, (blk_cell BK226.out 1).trans rfl, (blk_cell BK226.out 2).trans rfl, (blk_cell BK226.out 3).trans rfl, ((HB.out.cell (lc_ w _ hw228_0)).trans hw228_0)⟩ (fun hHeld => ?_); refine with_tabW spec_MailFrom.tab4 spec_MailFrom.bits4 (fun HT_ HW_ => ?_)
    generalize w62.drew = w63 at HO225 BK214 BK226 HB hx228_0 hHeld ⊢
    refine take_ (i := 0) (N := some 40) (v := ?_) (a' := ?_) #[T_, F_, F_, F_, F_, F_, F_, F_, F_, F_, F_, F_, F_, F_, F_, F_, F_, F_, F_, F_, F_, F_, F_, F_, F_, F_, F_, F_, F_] rfl rfl (take_ofW HT_.out HW_.out (by kernel_rfl)) (fun _ _ _ h => h) (Or.inl ⟨by rfl, ?_⟩) hHeld ?_ ?_
    rotate_left
    ·rintro w' ⟨s0, s1, s2, s3, s4⟩
     go_simp
     with_reducible rfl
    rotate_left
    ·simp only [Act.put, la_, lz_, ls_, i64_w, i32_w]
     rfl
    refine one_ (i := 1) (N := some 41) #[T_, T_, F_, F_, F_, F_, F_, F_, F_, F_, F_, F_, F_, F_, F_, F_, F_, F_, F_, F_, F_, F_, F_, F_, F_, F_, F_, F_, F_] rfl rfl (one_of HT_.out (by kernel_rfl)) (by decide) (fun K hK => ?_)
    refine goes_ Try.func34 (by kernel_rfl) rfl #[.agg #[.int .i64 a0, .int .i64 (wrap64 (rd l2 0)), .int .i64 (wrap64 (rd l2 1)), .slice Ao56 y223.length co56]] (by rfl) rfl rfl (by (try simp only [lm_, lo_, ln_]); first | done | rfl | (simp only [List.length_drop, List.length_take]; rfl)) ?_
    with_reducible refine (spec_MailOk.calls a0 (wrap64 (rd l2 0)) (wrap64 (rd l2 1)) _ _ y223 true _ ?side1 ?side2 A17.out).mono ?_
    (case side1 => repeat (first | exact (Kd.R_reads' HO225.out).2.2 | (with_reducible refine Kd.C_alloc ?_ _) | (with_reducible refine Kd.C_drewN ?_ _) | (with_reducible refine Kd.C_drew ?_)))
    (case side2 => exact (Kd.R_reads' HO225.out).2.1)
    rintro e w64 ⟨rfl, hb⟩
    refine ⟨_, rfl, ?_⟩
    have n0_ := mk_ (Kd.R_below (Kd.ur_ HO225.out) hb)
    have n1_ := mk_ (blk_below (u_ BK214.out) hb)
    have n2_ := mk_ (blk_below (u_ BK226.out) hb)
    have n3_ := mk_ (below_step (us_ HB.out) hb)
    clear HO225
    clear BK214
    clear BK226
    clear HB
    have HO225 := n0_
    have BK214 := n1_
    have BK226 := n2_
    have HB := n3_
    clear n0_ n1_ n2_ n3_
    (try clear hb)
    (try clear hb2)
    (try clear hk)
    (try clear hi)
    refine hK.out _ _ ⟨(blk_cell BK226.out 0).trans rfl, (blk_cell BK226.out 1).trans rfl, (blk_cell BK226.out 2).trans rfl, (blk_cell BK226.out 3).trans rfl, ((HB.out.cell (lc_ w _ hw228_0)).trans hw228_0)⟩ (fun hHeld => ?_)
    clear hK K
    refine norm_ (a' := ?_) ?_ ?_
    rotate_left
    ·show Act.put _ (some 41) _ = _
     simp only [Act.put, la_, lz_, ls_, i64_w, i32_w]
     rfl
    refine pure_ (i := 2) (N := some 42) (v := ?_) (a' := ?_) #[T_, T_, T_, F_, F_, F_, F_, F_, F_, F_, F_, F_, F_, F_, F_, F_, F_, F_, F_, F_, F_, F_, F_, F_, F_, F_, F_, F_, F_] rfl rfl (any_of HT_.out (by kernel_rfl)) (fun _ _ _ h => h) (Or.inl ⟨by rfl, ?_⟩) ?_ ?_
    rotate_left
    ·intro w'
     go_simp
     with_reducible rfl
    rotate_left
    ·simp only [Act.put, la_, lz_, ls_, i64_w, i32_w]
     rfl
    refine pure_ (i := 3) (N := some 43) (v := ?_) (a' := ?_) #[T_, T_, T_, T_, F_, F_, F_, F_, F_, F_, F_, F_, F_, F_, F_, F_, F_, F_, F_, F_, F_, F_, F_, F_, F_, F_, F_, F_, F_] rfl rfl (any_of HT_.out (by kernel_rfl)) (fun _ _ _ h => h) (Or.inl ⟨by rfl, ?_⟩) ?_ ?_
    rotate_left
    ·intro w'
     go_simp
     with_reducible rfl
    rotate_left
    ·simp only [Act.put, la_, lz_, ls_, i64_w, i32_w]
     rfl
    refine pure_ (i := 4) (N := some 44) (v := ?_) (a' := ?_) #[T_, T_, T_, T_, T_, F_, F_, F_, F_, F_, F_, F_, F_, F_, F_, F_, F_, F_, F_, F_, F_, F_, F_, F_, F_, F_, F_, F_, F_] rfl rfl (any_of HT_.out (by kernel_rfl)) (fun _ _ _ h => h) (Or.inl ⟨by rfl, ?_⟩) ?_ ?_
    rotate_left
    ·intro w'
     go_simp
     with_reducible rfl
    rotate_left
    ·simp only [Act.put, la_, lz_, ls_, i64_w, i32_w]
     rfl
    refine pure_ (i := 5) (N := some 45) (v := ?_) (a' := ?_) #[T_, T_, T_, T_, T_, T_, F_, F_, F_, F_, F_, F_, F_, F_, F_, F_, F_, F_, F_, F_, F_, F_, F_, F_, F_, F_, F_, F_, F_] rfl rfl (any_of HT_.out (by kernel_rfl)) (fun _ _ _ h => h) (Or.inl ⟨by rfl, ?_⟩) ?_ ?_
    rotate_left
    ·intro w'
     go_simp
     with_reducible rfl
    rotate_left
    ·simp only [Act.put, la_, lz_, ls_, i64_w, i32_w]
     rfl
    refine pure_ (i := 8) (N := some 48) (v := ?_) (a' := ?_) #[T_, T_, T_, T_, T_, T_, F_, F_, T_, F_, F_, F_, F_, F_, F_, F_, F_, F_, F_, F_, F_, F_, F_, F_, F_, F_, F_, F_, F_] rfl rfl (any_of HT_.out (by kernel_rfl)) (fun _ _ _ h => h) (Or.inl ⟨by rfl, ?_⟩) ?_ ?_
    rotate_left
    ·intro w'
     go_simp
     with_reducible rfl
    rotate_left
    ·simp only [Act.put, la_, lz_, ls_, i64_w, i32_w]
     rfl
    refine take_ (i := 6) (N := some 46) (v := ?_) (a' := ?_) #[T_, T_, T_, T_, T_, T_, T_, F_, T_, F_, F_, F_, F_, F_, F_, F_, F_, F_, F_, F_, F_, F_, F_, F_, F_, F_, F_, F_, F_] rfl rfl (take_ofW HT_.out HW_.out (by kernel_rfl)) (fun _ _ _ h => h) (Or.inl ⟨by rfl, ?_⟩) hHeld ?_ ?_
    rotate_left
    ·rintro w' ⟨s0, s1, s2, s3, s4⟩
     go_simp
     with_reducible rfl
    rotate_left
    ·simp only [Act.put, la_, lz_, ls_, i64_w, i32_w]
     rfl
    refine pure_ (i := 7) (N := some 47) (v := ?_) (a' := ?_) #[T_, T_, T_, T_, T_, T_, T_, T_, T_, F_, F_, F_, F_, F_, F_, F_, F_, F_, F_, F_, F_, F_, F_, F_, F_, F_, F_, F_, F_] rfl rfl (any_of HT_.out (by kernel_rfl)) (fun _ _ _ h => h) (Or.inl ⟨by rfl, ?_⟩) ?_ ?_
    rotate_left
    ·intro w'
     go_simp
     with_reducible rfl
    rotate_left
    ·simp only [Act.put, la_, lz_, ls_, i64_w, i32_w]
     rfl
    refine take_ (i := 9) (N := some 49) (v := ?_) (a' := ?_) #[T_, T_, T_, T_, T_, T_, T_, T_, T_, T_, F_, F_, F_, F_, F_, F_, F_, F_, F_, F_, F_, F_, F_, F_, F_, F_, F_, F_, F_] rfl rfl (take_ofW HT_.out HW_.out (by kernel_rfl)) (fun _ _ _ h => h) (Or.inl ⟨by rfl, ?_⟩) hHeld ?_ ?_
    rotate_left
    ·rintro w' ⟨s0, s1, s2, s3, s4⟩
     go_simp
     with_reducible rfl
    rotate_left
    ·simp only [Act.put, la_, lz_, ls_, i64_w, i32_w]
     rfl
    refine pure_ (i := 10) (N := some 50) (v := ?_) (a' := ?_) #[T_, T_, T_, T_, T_, T_, T_, T_, T_, T_, T_, F_, F_, F_, F_, F_, F_, F_, F_, F_, F_, F_, F_, F_, F_, F_, F_, F_, F_] rfl rfl (any_of HT_.out (by kernel_rfl)) (fun _ _ _ h => h) (Or.inl ⟨by rfl, ?_⟩) ?_ ?_
    rotate_left
    ·intro w'
     go_simp
     with_reducible rfl
    rotate_left
    ·simp only [Act.put, la_, lz_, ls_, i64_w, i32_w]
     rfl
    refine pure_ (i := 11) (N := some 51) (v := ?_) (a' := ?_) #[T_, T_, T_, T_, T_, T_, T_, T_, T_, T_, T_, T_, F_, F_, F_, F_, F_, F_, F_, F_, F_, F_, F_, F_, F_, F_, F_, F_, F_] rfl rfl (any_of HT_.out (by kernel_rfl)) (fun _ _ _ h => h) (Or.inl ⟨by rfl, ?_⟩) ?_ ?_
    rotate_left
    ·intro w'
     go_simp
     with_reducible rfl
    rotate_left
    ·simp only [Act.put, la_, lz_, ls_, i64_w, i32_w]
     rfl
    refine pure_ (i := 12) (N := some 52) (v := ?_) (a' := ?_) #[T_, T_, T_, T_, T_, T_, T_, T_, T_, T_, T_, T_, T_, F_, F_, F_, F_, F_, F_, F_, F_, F_, F_, F_, F_, F_, F_, F_, F_] rfl rfl (any_of HT_.out (by kernel_rfl)) (fun _ _ _ h => h) (Or.inl ⟨by rfl, ?_⟩) ?_ ?_
    rotate_left
    ·intro w'
     go_simp
     with_reducible rfl
    rotate_left
    ·simp only [Act.put, la_, lz_, ls_, i64_w, i32_w]
     rfl
    refine pure_ (i := 13) (N := some 53) (v := ?_) (a' := ?_) #[T_, T_, T_, T_, T_, T_, T_, T_, T_, T_, T_, T_, T_, T_, F_, F_, F_, F_, F_, F_, F_, F_, F_, F_, F_, F_, F_, F_, F_] rfl rfl (any_of HT_.out (by kernel_rfl)) (fun _ _ _ h => h) (Or.inl ⟨by rfl, ?_⟩) ?_ ?_
    rotate_left
    ·intro w'
     go_simp
     with_reducible rfl
    rotate_left
    ·simp only [Act.put, la_, lz_, ls_, i64_w, i32_w]
     rfl
    refine pure_ (i := 14) (N := some 54) (v := ?_) (a' := ?_) #[T_, T_, T_, T_, T_, T_, T_, T_, T_, T_, T_, T_, T_, T_, T_, F_, F_, F_, F_, F_, F_, F_, F_, F_, F_, F_, F_, F_, F_] rfl rfl (any_of HT_.out (by kernel_rfl)) (fun _ _ _ h => h) (Or.inl ⟨by rfl, ?_⟩) ?_ ?_
    rotate_left
    ·intro w'
     go_simp
     with_reducible rfl
    rotate_left
    ·simp only [Act.put, la_, lz_, ls_, i64_w, i32_w]
     rfl
    refine pure_ (i := 15) (N := some 55) (v := ?_) (a' := ?_) #[T_, T_, T_, T_, T_, T_, T_, T_, T_, T_, T_, T_, T_, T_, T_, T_, F_, F_, F_, F_, F_, F_, F_, F_, F_, F_, F_, F_, F_] rfl rfl (any_of HT_.out (by kernel_rfl)) (fun _ _ _ h => h) (Or.inl ⟨by rfl, ?_⟩) ?_ ?_
    rotate_left
    ·intro w'
     go_simp
     with_reducible rfl
    rotate_left
    ·simp only [Act.put, la_, lz_, ls_, i64_w, i32_w]
     rfl
    refine pure_ (i := 16) (N := some 56) (v := ?_) (a' := ?_) #[T_, T_, T_, T_, T_, T_, T_, T_, T_, T_, T_, T_, T_, T_, T_, T_, T_, F_, F_, F_, F_, F_, F_, F_, F_, F_, F_, F_, F_] rfl rfl (any_of HT_.out (by kernel_rfl)) (fun _ _ _ h => h) (Or.inl ⟨by rfl, ?_⟩) ?_ ?_
    rotate_left
    ·intro w'
     go_simp
     with_reducible rfl
    rotate_left
    ·simp only [Act.put, la_, lz_, ls_, i64_w, i32_w]
     rfl
    refine pure_ (i := 17) (N := some 57) (v := ?_) (a' := ?_) #[T_, T_, T_, T_, T_, T_, T_, T_, T_, T_, T_, T_, T_, T_, T_, T_, T_, T_, F_, F_, F_, F_, F_, F_, F_, F_, F_, F_, F_] rfl rfl (any_of HT_.out (by kernel_rfl)) (fun _ _ _ h => h) (Or.inl ⟨by rfl, ?_⟩) ?_ ?_
    rotate_left
    ·intro w'
     go_simp
     with_reducible rfl
    rotate_left
    ·simp only [Act.put, la_, lz_, ls_, i64_w, i32_w]
     rfl
    refine pure_ (i := 19) (N := some 59) (v := ?_) (a' := ?_) #[T_, T_, T_, T_, T_, T_, T_, T_, T_, T_, T_, T_, T_, T_, T_, T_, T_, T_, F_, T_, F_, F_, F_, F_, F_, F_, F_, F_, F_] rfl rfl (any_of HT_.out (by kernel_rfl)) (fun _ _ _ h => h) (Or.inl ⟨by rfl, ?_⟩) ?_ ?_
    rotate_left
    ·intro w'
     go_simp
     with_reducible rfl
    rotate_left
    ·simp only [Act.put, la_, lz_, ls_, i64_w, i32_w]
     rfl
    refine pure_ (i := 20) (N := some 60) (v := ?_) (a' := ?_) #[T_, T_, T_, T_, T_, T_, T_, T_, T_, T_, T_, T_, T_, T_, T_, T_, T_, T_, F_, T_, T_, F_, F_, F_, F_, F_, F_, F_, F_] rfl rfl (any_of HT_.out (by kernel_rfl)) (fun _ _ _ h => h) (Or.inl ⟨by rfl, ?_⟩) ?_ ?_
    rotate_left
    ·intro w'
     go_simp
     with_reducible rfl
    rotate_left
    ·simp only [Act.put, la_, lz_, ls_, i64_w, i32_w]
     rfl
    refine pure_ (i := 21) (N := some 61) (v := ?_) (a' := ?_) #[T_, T_, T_, T_, T_, T_, T_, T_, T_, T_, T_, T_, T_, T_, T_, T_, T_, T_, F_, T_, T_, T_, F_, F_, F_, F_, F_, F_, F_] rfl rfl (any_of HT_.out (by kernel_rfl)) (fun _ _ _ h => h) (Or.inl ⟨by rfl, ?_⟩) ?_ ?_
    rotate_left
    ·intro w'
     go_simp
     with_reducible rfl
    rotate_left
    ·simp only [Act.put, la_, lz_, ls_, i64_w, i32_w]
     rfl
    refine pure_ (i := 22) (N := some 62) (v := ?_) (a' := ?_) #[T_, T_, T_, T_, T_, T_, T_, T_, T_, T_, T_, T_, T_, T_, T_, T_, T_, T_, F_, T_, T_, T_, T_, F_, F_, F_, F_, F_, F_] rfl rfl (any_of HT_.out (by kernel_rfl)) (fun _ _ _ h => h) (Or.inl ⟨by rfl, ?_⟩) ?_ ?_
    rotate_left
    ·intro w'
     go_simp
     with_reducible rfl
    rotate_left
    ·simp only [Act.put, la_, lz_, ls_, i64_w, i32_w]
     rfl
    refine pure_ (i := 23) (N := some 63) (v := ?_) (a' := ?_) #[T_, T_, T_, T_, T_, T_, T_, T_, T_, T_, T_, T_, T_, T_, T_, T_, T_, T_, F_, T_, T_, T_, T_, T_, F_, F_, F_, F_, F_] rfl rfl (any_of HT_.out (by kernel_rfl)) (fun _ _ _ h => h) (Or.inl ⟨by rfl, ?_⟩) ?_ ?_
    rotate_left
    ·intro w'
     go_simp
     with_reducible rfl
    rotate_left
    ·simp only [Act.put, la_, lz_, ls_, i64_w, i32_w]
     rfl
    refine pure_ (i := 24) (N := some 64) (v := ?_) (a' := ?_) #[T_, T_, T_, T_, T_, T_, T_, T_, T_, T_, T_, T_, T_, T_, T_, T_, T_, T_, F_, T_, T_, T_, T_, T_, T_, F_, F_, F_, F_] rfl rfl (any_of HT_.out (by kernel_rfl)) (fun _ _ _ h => h) (Or.inl ⟨by rfl, ?_⟩) ?_ ?_
    rotate_left
    ·intro w'
     go_simp
     with_reducible rfl
    rotate_left
    ·simp only [Act.put, la_, lz_, ls_, i64_w, i32_w]
     rfl
    refine pure_ (i := 25) (N := some 65) (v := ?_) (a' := ?_) #[T_, T_, T_, T_, T_, T_, T_, T_, T_, T_, T_, T_, T_, T_, T_, T_, T_, T_, F_, T_, T_, T_, T_, T_, T_, T_, F_, F_, F_] rfl rfl (any_of HT_.out (by kernel_rfl)) (fun _ _ _ h => h) (Or.inl ⟨by rfl, ?_⟩) ?_ ?_
    rotate_left
    ·intro w'
     go_simp
     with_reducible rfl
    rotate_left
    ·simp only [Act.put, la_, lz_, ls_, i64_w, i32_w]
     rfl
    refine one_ (i := 18) (N := some 58) #[T_, T_, T_, T_, T_, T_, T_, T_, T_, T_, T_, T_, T_, T_, T_, T_, T_, T_, T_, T_, T_, T_, T_, T_, T_, T_, F_, F_, F_] rfl rfl (one_of HT_.out (by kernel_rfl)) (by decide) (fun K hK => ?_)
    refine goes_ Try.func50 (by kernel_rfl) rfl #[.slice (some ad217) l2.length c2, .int .i64 ji22, .int .i64 2] (by rfl) rfl rfl (by (try simp only [List.map_toArray, List.map_cons, List.map_nil]); first | done | (simp only [hji22]; rfl) | rfl | (simp only [List.length_drop, List.length_take]; rfl)) ?_
    with_reducible refine (spec_NumberAt.calls kj3 _ _ l2 ji22 2 t229 _ ?side1 ?side2 A21.out).mono ?_
    (case side1 => repeat (first | exact (Kd.C_below HR2.out HB.out) | (with_reducible refine Kd.C_alloc ?_ _) | (with_reducible refine Kd.C_drewN ?_ _) | (with_reducible refine Kd.C_drew ?_)))
    (case side2 => exact HC2.out)
    rintro e w' ⟨rfl, ⟨nd, rfl⟩⟩
    refine ⟨_, rfl, ?_⟩
    refine hK.out _ _ ⟨(blk_cell BK226.out 0).trans rfl, (blk_cell BK226.out 1).trans rfl, (blk_cell BK226.out 2).trans rfl, (blk_cell BK226.out 3).trans rfl, ((HB.out.cell (lc_ w _ hw228_0)).trans hw228_0)⟩ (fun hHeld => ?_)
    clear hK K
    refine norm_ (a' := ?_) ?_ ?_
    rotate_left
    ·show Act.put _ (some 58) _ = _
     simp only [Act.put, la_, lz_, ls_, i64_w, i32_w]
     rfl
    refine one_ (i := 26) (N := some 66) #[T_, T_, T_, T_, T_, T_, T_, T_, T_, T_, T_, T_, T_, T_, T_, T_, T_, T_, T_, T_, T_, T_, T_, T_, T_, T_, T_, F_, F_] rfl rfl (one_of HT_.out (by kernel_rfl)) (by decide) (fun K hK => ?_)
    refine goes_ Try.func37 (by kernel_rfl) rfl #[.int .i64 a0, .int .i64 a1, .slice (some ad217) (l2.take ((ji22) : Int).toNat).length c2] (by rfl) rfl rfl (by (try simp only [List.map_toArray, List.map_cons, List.map_nil]); first | done | (rw [show (l2.take ((ji22) : Int).toNat).length = (ji22).toNat from (by rw [List.length_take]; have h_ : ((ji22) : Int) ≤ (l2.length : Int) := of_decide_eq_true (by first | (with_reducible assumption) | assumption); omega)] <;> rfl) | (simp only [hji22]; rfl) | rfl | (simp only [List.length_drop, List.length_take]; rfl)) ?_
    with_reducible refine (spec_l9Sum.calls kj3 a0 a1 _ _ (l2.take ((ji22) : Int).toNat) t231 _ ?side1 ?side2 A25.out).mono ?_
    (case side1 => repeat (first | exact (Kd.C_below HR230.out (us_ HB.out)) | (with_reducible refine Kd.C_alloc ?_ _) | (with_reducible refine Kd.C_drewN ?_ _) | (with_reducible refine Kd.C_drew ?_)))
    (case side2 => exact HC230.out)
    rintro e w65 ⟨rfl, hb⟩
    refine ⟨_, rfl, ?_⟩
    have n0_ := mk_ (Kd.R_below (Kd.ur_ HO225.out) hb)
    have n1_ := mk_ (blk_below (u_ BK214.out) hb)
    have n2_ := mk_ (blk_below (u_ BK226.out) hb)
    have n3_ := mk_ (below_step (us_ HB.out) hb)
    clear HO225
    clear BK214
    clear BK226
    clear HB
    have HO225 := n0_
    have BK214 := n1_
    have BK226 := n2_
    have HB := n3_
    clear n0_ n1_ n2_ n3_
    (try clear hb)
    (try clear hb2)
    (try clear hk)
    (try clear hi)
    refine hK.out _ _ ⟨(blk_cell BK226.out 0).trans rfl, (blk_cell BK226.out 1).trans rfl, (blk_cell BK226.out 2).trans rfl, (blk_cell BK226.out 3).trans rfl, ((HB.out.cell (lc_ w _ hw228_0)).trans hw228_0)⟩ (fun hHeld => ?_)
    clear hK K
    refine norm_ (a' := ?_) ?_ ?_
    rotate_left
    ·show Act.put _ (some 66) _ = _
     simp only [Act.put, la_, lz_, ls_, i64_w, i32_w]
     rfl
    refine pure_ (i := 27) (N := some 67) (v := ?_) (a' := ?_) #[T_, T_, T_, T_, T_, T_, T_, T_, T_, T_, T_, T_, T_, T_, T_, T_, T_, T_, T_, T_, T_, T_, T_, T_, T_, T_, T_, T_, F_] rfl rfl (any_of HT_.out (by kernel_rfl)) (fun _ _ _ h => h) (Or.inl ⟨by rfl, ?_⟩) ?_ ?_
    rotate_left
    ·intro w'
     go_simp
     with_reducible rfl
    rotate_left
    ·simp only [Act.put, la_, lz_, ls_, i64_w, i32_w]
     rfl
    refine pure_ (i := 28) (N := some 68) (v := ?_) (a' := ?_) #[T_, T_, T_, T_, T_, T_, T_, T_, T_, T_, T_, T_, T_, T_, T_, T_, T_, T_, T_, T_, T_, T_, T_, T_, T_, T_, T_, T_, T_] rfl rfl (any_of HT_.out (by kernel_rfl)) (fun _ _ _ h => h) (Or.inl ⟨by rfl, ?_⟩) ?_ ?_
    rotate_left
    ·intro w'
     go_simp
     with_reducible rfl
    rotate_left
    ·simp only [Act.put, la_, lz_, ls_, i64_w, i32_w]
     rfl
    refine done_ (done_of HT_.out (by kernel_rfl)) ?_
    have hnb66 := NB214_226.out
    have hnc66 := NB226_214.out
    obtain ⟨hcz67_0, hcz67_1, hcz67_2, hcz67_3, hfz67_0, hfz67_1, hfz67_2, hfz67_3⟩ := cells4_ BK214.out
    try go_wp2
    refine bodyPost_ret (results_ct rfl _ _ gb214 27 #[.int .i64 0, .int .i64 0, .int .i64 0, .slice none 0 0] (0, 0) _ rfl (by (with_reducible repeat (first | refine bn_ ?_ _ | refine bw_ ?_ | refine ba_ ?_ _)); refine blk_put (cs := #[.int .i64 0, .int .i64 0, .int .i64 0, .slice none 0 0]) ?_ 3 _ rfl; (with_reducible repeat (first | refine bn_ ?_ _ | refine bw_ ?_ | refine ba_ ?_ _)); refine blk_put (cs := #[.int .i64 0, .int .i64 0, .int .i64 0, .slice none 0 0]) ?_ 2 _ rfl; (with_reducible repeat (first | refine bn_ ?_ _ | refine bw_ ?_ | refine ba_ ?_ _)); refine blk_put (cs := #[.int .i64 0, .int .i64 0, .int .i64 0, .slice none 0 0]) ?_ 1 _ rfl; (with_reducible repeat (first | refine bn_ ?_ _ | refine bw_ ?_ | refine ba_ ?_ _)); refine blk_put (cs := #[.int .i64 0, .int .i64 0, .int .i64 0, .slice none 0 0]) ?_ 0 _ rfl; (with_reducible repeat (first | refine bn_ ?_ _ | refine bw_ ?_ | refine ba_ ?_ _)); exact BK214.out) Try.underlying27 rfl (by kernel_rfl)) rfl ?_
    exact ⟨_, by first | rfl | (simp [errW_none, errW_some] <;> rfl) | (simp only [← hji22]; first | rfl | (simp [errW_none, errW_some] <;> rfl)) | (simp [*, errW_none, errW_some] <;> rfl), by first | exact Kd.R_nil _ _ _ _ _ | exact Kd.N_nil _ _ _ _ _ | exact Kd.V_nil _ _ _ _ _ | exact Kd.Q_nil _ _ _ _ _ | exact Kd.S_nil _ _ _ _ _, us_ HB.out⟩
   rw [if_pos c26] at H
   have c26b0 : (t229 == t231) = true := beq_iff_eq.mpr c26
   have c26b1 : (t229 != t231) = false := bne_eq_false_iff_eq.mpr c26
   clear c26
   simp only [Option.some.injEq, Prod.mk.injEq] at H
   obtain ⟨rfl, rfl, rfl, rfl, rfl⟩ := H
   try go_wp2
   have n0_ := mk_ (blk_drew BK214.out)
   have n1_ := mk_ (below_drew1 HB.out)
   clear BK214
   clear HB
   have BK214 := n0_
   have HB := n1_
   clear n0_ n1_
   have p217 : 0 ≤ (0 : Int) := (by omega)
   have q217 : 0 < (l2.length : Int) := of_decide_eq_true (by first | (with_reducible assumption) | assumption)
   obtain ⟨ad217, e217, hx217_0⟩ := Kd.at_int HR2.out 0 p217 q217
   have hw217_0 := hx217_0
   (try rw [show ((0 : Int)).toNat = 0 from rfl] at hw217_0)
   (try rw [show 0 * 1 = 0 from rfl] at hw217_0)
   (try rw [Addr.add_zero'] at hw217_0)
   cases e217
   have qi217 : (0 < l2.length) = True := eq_true (by omega)
   (try rw [show ((0 : Int)).toNat = 0 from rfl] at hx217_0)
   (try rw [Addr.add_zero'] at hx217_0)
   replace hx217_0 := (HB.out.cell (lc_ w _ hx217_0)).trans hx217_0
   replace p217 := eq_true p217
   replace q217 := eq_true q217
   have p218 : 0 ≤ (1 : Int) := (by omega)
   have q218 : 1 < (l2.length : Int) := of_decide_eq_true (by first | (with_reducible assumption) | assumption)
   obtain ⟨ad218, e218, hx218_0⟩ := Kd.at_int HR2.out 1 p218 q218
   have hw218_0 := hx218_0
   (try rw [show ((1 : Int)).toNat = 1 from rfl] at hw218_0)
   (try rw [show 1 * 1 = 1 from rfl] at hw218_0)
   (try simp only [Nat.reduceMul, Nat.reduceEqDiff, Go.Addr.add, ↓reduceIte] at hw218_0)
   obtain rfl : ad217 = ad218 := (by injection e218)
   (try simp only [show (1 : Int).toNat = 1 from rfl, Nat.reduceMul, Nat.reduceEqDiff, Go.Addr.add, ↓reduceIte] at hx218_0)
   have qi218 : (1 < l2.length) = True := eq_true (by omega)
   (try rw [show ((1 : Int)).toNat = 1 from rfl] at hx218_0)
   replace hx218_0 := (HB.out.cell (lc_ w _ hx218_0)).trans hx218_0
   replace p218 := eq_true p218
   replace q218 := eq_true q218
   obtain ⟨i028, hi028, _, hsz28, _⟩ := info_parts info5
   obtain ⟨A28, hcut28, hA28, hC28⟩ := print_mid_of (P := Try.prog) (Value.int .u8) 0 22 5 .i64 .i64 Try.underlying22 hi028 hsz28 (some ad217) c2 l2 3 (ji22) (by omega) (by first | omega | exact of_decide_eq_true (by first | (with_reducible assumption) | assumption)) (of_decide_eq_true (by first | (with_reducible assumption) | assumption)) HC2.out
   have HR222 := mk_ (Kd.C_of_reads (h1 := fun _ => rfl) (hA28 _ (Kd.reads_of_C HR2.out)))
   have HC222 := mk_ hC28
   clear hA28 hC28 hi028 hsz28
   refine start_ (n := 19) (S := fun w' => w'.cell? ad217 = some (.int .u8 (rd l2 0)) ∧ w'.cell? ⟨ad217.block, ad217.off + 1, none⟩ = some (.int .u8 (rd l2 1))) (ds := []) #[F_, F_, F_, F_, F_, F_, F_, F_, F_, F_, F_, F_, F_, F_, F_, F_, F_, F_, F_] (by kernel_rfl) rfl rfl ⟨((HB.out.cell (lc_ w _ hw217_0)).trans hw217_0), ((HB.out.cell (lc_ w _ hw218_0)).trans hw218_0)⟩ (fun hHeld => ?_); refine with_tabW spec_MailFrom.tab3 spec_MailFrom.bits3 (fun HT_ HW_ => ?_)
   generalize wc.drew = w27 at BK214 HB HR222 hx217_0 hx218_0 hHeld ⊢
   refine pure_ (i := 0) (N := some 23) (v := ?_) (a' := ?_) #[T_, F_, F_, F_, F_, F_, F_, F_, F_, F_, F_, F_, F_, F_, F_, F_, F_, F_, F_] rfl rfl (any_of HT_.out (by kernel_rfl)) (fun _ _ _ h => h) (Or.inl ⟨by rfl, ?_⟩) ?_ ?_
   rotate_left
   ·intro w'
    go_simp
    with_reducible rfl
   rotate_left
   ·simp only [Act.put, la_, lz_, ls_, i64_w, i32_w]
    rfl
   refine pure_ (i := 1) (N := some 24) (v := ?_) (a' := ?_) #[T_, T_, F_, F_, F_, F_, F_, F_, F_, F_, F_, F_, F_, F_, F_, F_, F_, F_, F_] rfl rfl (any_of HT_.out (by kernel_rfl)) (fun _ _ _ h => h) (Or.inl ⟨by rfl, ?_⟩) ?_ ?_
   rotate_left
   ·intro w'
    go_simp
    with_reducible rfl
   rotate_left
   ·simp only [Act.put, la_, lz_, ls_, i64_w, i32_w]
    rfl
   refine pure_ (i := 2) (N := some 25) (v := ?_) (a' := ?_) #[T_, T_, T_, F_, F_, F_, F_, F_, F_, F_, F_, F_, F_, F_, F_, F_, F_, F_, F_] rfl rfl (any_of HT_.out (by kernel_rfl)) (fun _ _ _ h => h) (Or.inl ⟨by rfl, ?_⟩) ?_ ?_
   rotate_left
   ·intro w'
    go_simp
    with_reducible rfl
   rotate_left
   ·simp only [Act.put, la_, lz_, ls_, i64_w, i32_w]
    rfl
   refine pure_ (i := 5) (N := some 28) (v := ?_) (a' := ?_) #[T_, T_, T_, F_, F_, T_, F_, F_, F_, F_, F_, F_, F_, F_, F_, F_, F_, F_, F_] rfl rfl (any_of HT_.out (by kernel_rfl)) (fun _ _ _ h => h) (Or.inl ⟨by rfl, ?_⟩) ?_ ?_
   rotate_left
   ·intro w'
    go_simp
    with_reducible rfl
   rotate_left
   ·simp only [Act.put, la_, lz_, ls_, i64_w, i32_w]
    rfl
   refine pure_ (i := 6) (N := some 29) (v := ?_) (a' := ?_) #[T_, T_, T_, F_, F_, T_, T_, F_, F_, F_, F_, F_, F_, F_, F_, F_, F_, F_, F_] rfl rfl (any_of HT_.out (by kernel_rfl)) (fun _ _ _ h => h) (Or.inl ⟨by rfl, ?_⟩) ?_ ?_
   rotate_left
   ·intro w'
    go_simp
    with_reducible rfl
   rotate_left
   ·simp only [Act.put, la_, lz_, ls_, i64_w, i32_w]
    rfl
   refine pure_ (i := 10) (N := some 33) (v := ?_) (a' := ?_) #[T_, T_, T_, F_, F_, T_, T_, F_, F_, F_, T_, F_, F_, F_, F_, F_, F_, F_, F_] rfl rfl (any_of HT_.out (by kernel_rfl)) (fun _ _ _ h => h) (Or.inl ⟨by rfl, ?_⟩) ?_ ?_
   rotate_left
   ·intro w'
    go_simp
    with_reducible rfl
   rotate_left
   ·simp only [Act.put, la_, lz_, ls_, i64_w, i32_w]
    rfl
   refine pure_ (i := 11) (N := some 34) (v := ?_) (a' := ?_) #[T_, T_, T_, F_, F_, T_, T_, F_, F_, F_, T_, T_, F_, F_, F_, F_, F_, F_, F_] rfl rfl (any_of HT_.out (by kernel_rfl)) (fun _ _ _ h => h) (Or.inl ⟨by rfl, ?_⟩) ?_ ?_
   rotate_left
   ·intro w'
    go_simp
    with_reducible rfl
   rotate_left
   ·simp only [Act.put, la_, lz_, ls_, i64_w, i32_w]
    rfl
   refine pure_ (i := 12) (N := some 35) (v := ?_) (a' := ?_) #[T_, T_, T_, F_, F_, T_, T_, F_, F_, F_, T_, T_, T_, F_, F_, F_, F_, F_, F_] rfl rfl (any_of HT_.out (by kernel_rfl)) (fun _ _ _ h => h) (Or.inl ⟨by rfl, ?_⟩) ?_ ?_
   rotate_left
   ·intro w'
    go_simp
    with_reducible rfl
   rotate_left
   ·simp only [Act.put, la_, lz_, ls_, i64_w, i32_w]
    rfl
   refine pure_ (i := 13) (N := some 36) (v := ?_) (a' := ?_) #[T_, T_, T_, F_, F_, T_, T_, F_, F_, F_, T_, T_, T_, T_, F_, F_, F_, F_, F_] rfl rfl (any_of HT_.out (by kernel_rfl)) (fun _ _ _ h => h) (Or.inl ⟨by rfl, ?_⟩) ?_ ?_
   rotate_left
   ·intro w'
    go_simp
    with_reducible rfl
   rotate_left
   ·simp only [Act.put, la_, lz_, ls_, i64_w, i32_w]
    rfl
   refine pure_ (i := 14) (N := some 37) (v := ?_) (a' := ?_) #[T_, T_, T_, F_, F_, T_, T_, F_, F_, F_, T_, T_, T_, T_, T_, F_, F_, F_, F_] rfl rfl (any_of HT_.out (by kernel_rfl)) (fun _ _ _ h => h) (Or.inl ⟨by rfl, ?_⟩) ?_ ?_
   rotate_left
   ·intro w'
    go_simp
    with_reducible rfl
   rotate_left
   ·simp only [Act.put, la_, lz_, ls_, i64_w, i32_w]
    rfl
   refine take_ (i := 3) (N := some 26) (v := ?_) (a' := ?_) #[T_, T_, T_, T_, F_, T_, T_, F_, F_, F_, T_, T_, T_, T_, T_, F_, F_, F_, F_] rfl rfl (take_ofW HT_.out HW_.out (by kernel_rfl)) (fun _ _ _ h => h) (Or.inl ⟨by rfl, ?_⟩) hHeld ?_ ?_
   rotate_left
   ·rintro w' ⟨s0, s1⟩
    go_simp
    with_reducible rfl
   rotate_left
   ·simp only [Act.put, la_, lz_, ls_, i64_w, i32_w]
    rfl
   refine pure_ (i := 4) (N := some 27) (v := ?_) (a' := ?_) #[T_, T_, T_, T_, T_, T_, T_, F_, F_, F_, T_, T_, T_, T_, T_, F_, F_, F_, F_] rfl rfl (any_of HT_.out (by kernel_rfl)) (fun _ _ _ h => h) (Or.inl ⟨by rfl, ?_⟩) ?_ ?_
   rotate_left
   ·intro w'
    go_simp
    with_reducible rfl
   rotate_left
   ·simp only [Act.put, la_, lz_, ls_, i64_w, i32_w]
    rfl
   refine take_ (i := 7) (N := some 30) (v := ?_) (a' := ?_) #[T_, T_, T_, T_, T_, T_, T_, T_, F_, F_, T_, T_, T_, T_, T_, F_, F_, F_, F_] rfl rfl (take_ofW HT_.out HW_.out (by kernel_rfl)) (fun _ _ _ h => h) (Or.inl ⟨by rfl, ?_⟩) hHeld ?_ ?_
   rotate_left
   ·rintro w' ⟨s0, s1⟩
    go_simp
    with_reducible rfl
   rotate_left
   ·simp only [Act.put, la_, lz_, ls_, i64_w, i32_w]
    rfl
   refine pure_ (i := 8) (N := some 31) (v := ?_) (a' := ?_) #[T_, T_, T_, T_, T_, T_, T_, T_, T_, F_, T_, T_, T_, T_, T_, F_, F_, F_, F_] rfl rfl (any_of HT_.out (by kernel_rfl)) (fun _ _ _ h => h) (Or.inl ⟨by rfl, ?_⟩) ?_ ?_
   rotate_left
   ·intro w'
    go_simp
    with_reducible rfl
   rotate_left
   ·simp only [Act.put, la_, lz_, ls_, i64_w, i32_w]
    rfl
   refine join_ (σ := Value × Value × Nat) 1 #[T_, T_, T_, T_, T_, T_, T_, T_, T_, T_, T_, T_, T_, T_, T_, T_, T_, T_, F_] (fun s_ => [(32, s_.1), (38, s_.2.1), (8, .pointer (some ⟨s_.2.2, 0, none⟩)), (39, .agg #[.int .i64 a0, .int .i64 (wrap64 (rd l2 0)), .int .i64 (wrap64 (rd l2 1)), s_.2.1])]) (fun s_ w' => (w'.cell? ad217 = some (.int .u8 (rd l2 0)) ∧ w'.cell? ⟨ad217.block, ad217.off + 1, none⟩ = some (.int .u8 (rd l2 1))) ∧ (Kd.R (Kd.int .u8) 5 w' w.heap.size (fun _ => True) s_.2.1 y223) ∧ (w'.heap[gb214]? = some (.cells #[.int .i64 0, .int .i64 0, .int .i64 0, .slice none 0 0] 27 (0, 0))) ∧ (w'.heap[s_.2.2]? = some (.cells #[.int .i64 0, .int .i64 0, .int .i64 0, .slice none 0 0] 27 (0, 0))) ∧ (w.heap.size ≤ s_.2.2) ∧ (w.heap.size ≤ s_.2.2) ∧ (gb214 ≠ s_.2.2) ∧ (s_.2.2 ≠ gb214) ∧ (Below w.heap.size w w')) ?_ ?_
   rotate_left
   ·intro hCont
    refine two_ (i := 9) (j := 17) (Ni := some 32) (Nj := some 8) #[T_, T_, T_, T_, T_, T_, T_, T_, T_, T_, T_, T_, T_, T_, T_, F_, F_, F_, F_] #[T_, T_, T_, T_, T_, T_, T_, T_, T_, F_, T_, T_, T_, T_, T_, F_, F_, T_, F_] rfl rfl rfl rfl (two_of HT_.out (by kernel_rfl)) (by decide) (by decide) (fun K hK => ?_) (fun K hK => ?_)
    ·skip
     refine Kd.R_lit_step (Kd.int .u8) _ 5 ?hg (N := 32) ?hd (xs := ([] : List Int)) (inner := []) (ok := fun _ => True) (okp := fun _ => True) ?hr ?hp (fun _ hk => hk) trivial (Below.refl _ _) (Nat.le_refl _) (by simp) ?_; (case hd => rfl); (case hg => rfl); (case hr => first | (go_simp; done) | (go_simp; rfl)); (case hp => exact (Reps.none _ _))
     intro v220 w29 ho30 hb hg_ hnew_
     clear hg_ hnew_
     (first | rw [← Ny219.out] at ho30 | (simp only [Int.reduceToNat] at ho30; rw [← Ny219.out] at ho30))
     have n0_ := mk_ (Kd.R_lower ho30 (below_size (us_ HB.out)))
     have n1_ := mk_ (blk_below (u_ BK214.out) hb)
     have n2_ := mk_ (below_step (us_ HB.out) hb)
     clear BK214
     clear HB
     have HO221 := n0_
     have BK214 := n1_
     have HB := n2_
     clear n0_ n1_ n2_
     clear hb ho30
     refine hK.out _ _ ⟨((HB.out.cell (lc_ w _ hw217_0)).trans hw217_0), ((HB.out.cell (lc_ w _ hw218_0)).trans hw218_0)⟩ (fun hHeld => ?_)
     clear hK K
     refine norm_ (a' := ?_) ?_ ?_
     rotate_left
     ·show Act.put _ (some 32) _ = _
      simp only [Act.put, la_, lz_, ls_, i64_w, i32_w]
      rfl
     refine two_ (i := 15) (j := 17) (Ni := some 38) (Nj := some 8) #[T_, T_, T_, T_, T_, T_, T_, T_, T_, T_, T_, T_, T_, T_, T_, T_, F_, F_, F_] #[T_, T_, T_, T_, T_, T_, T_, T_, T_, T_, T_, T_, T_, T_, T_, F_, F_, T_, F_] rfl rfl rfl rfl (two_of HT_.out (by kernel_rfl)) (by decide) (by decide) (fun K hK => ?_) (fun K hK => ?_)
     ·skip
      refine Kd.R_append_rows_step (Kd.int .u8) (w0 := w) w.heap.size (by rfl) (.tmp 32) (.tmp 37) 22 5 (.int .u8 0) 1 rfl Try.underlying22 info5 rfl (by decide) (by omega) v220 y219 ((l2.take ((ji22) : Int).toNat).drop 3) _ _ _ (fun _ => True) (fun _ => False) rfl rfl ?aO ?aR (fun _ _ h => h) (fun _ h => h.elim) ?aF ?aB ?aS ?aL ?_
      (case aR => first | (have e_ := (Kd.C_below HR222.out HB.out); rw [show ((l2.take ((ji22) : Int).toNat).drop 3).length = ((ji22).toNat - 3) from (by rw [List.length_drop, List.length_take]; have h_ : ((ji22) : Int) ≤ (l2.length : Int) := of_decide_eq_true (by first | (with_reducible assumption) | assumption); omega)] at e_; exact e_) | (rw [← show ((l2.take ((ji22) : Int).toNat).drop 3).length = ((ji22).toNat - 3) from (by rw [List.length_drop, List.length_take]; have h_ : ((ji22) : Int) ≤ (l2.length : Int) := of_decide_eq_true (by first | (with_reducible assumption) | assumption); omega)]; repeat (first | exact (Kd.C_below HR222.out HB.out) | (with_reducible refine Kd.C_alloc ?_ _) | (with_reducible refine Kd.C_drewN ?_ _) | (with_reducible refine Kd.C_drew ?_))) | (repeat (first | exact (Kd.C_below HR222.out HB.out) | (with_reducible refine Kd.C_alloc ?_ _) | (with_reducible refine Kd.C_drewN ?_ _) | (with_reducible refine Kd.C_drew ?_))))
      (case aB => exact (us_ HB.out))
      (case aF => exact (fun _ _ => trivial))
      (case aO => exact (Kd.ur_ HO221.out))
      (case aS => exact (below_size (us_ HB.out)))
      (case aL => have := LMc16.out; have hlx_ := (show ((l2.take ((ji22) : Int).toNat).drop 3).length = ((ji22).toNat - 3) from (by rw [List.length_drop, List.length_take]; have h_ : ((ji22) : Int) ≤ (l2.length : Int) := of_decide_eq_true (by first | (with_reducible assumption) | assumption); omega)); omega)
      intro v224 w31 ho hb hg hat
      rw [← Ny223.out] at ho
      have n0_ := mk_ (blk_grown (g := gb214) (o := .cells #[.int .i64 0, .int .i64 0, .int .i64 0, .slice none 0 0] 27 (0, 0)) (u_ BK214.out) hg (Kd.R_ne HO221.out BK214.out (by decide)))
      have n1_ := mk_ (hb)
      have n2_ := mk_ (ho)
      clear BK214
      clear HB
      clear HO221
      have BK214 := n0_
      have HB := n1_
      have HO225 := n2_
      clear n0_ n1_ n2_
      clear ho hb hg hat
      obtain ⟨Ao32, co32, eo32⟩ := Kd.R_slice HO225.out
      (first | subst eo32 | (injection eo32 with f1_ f2_ f3_; have f4_ := f1_.symm; have f5_ := f3_.symm; clear f1_ f2_ f3_; subst f4_; subst f5_))
      refine hK.out _ _ ⟨((HB.out.cell (lc_ w _ hw217_0)).trans hw217_0), ((HB.out.cell (lc_ w _ hw218_0)).trans hw218_0)⟩ (fun hHeld => ?_)
      clear hK K
      refine norm_ (a' := ?_) ?_ ?_
      rotate_left
      ·show Act.put _ (some 38) _ = _
       simp only [Act.put, la_, lz_, ls_, i64_w, i32_w]
       rfl
      refine pure_ (i := 16) (N := some 39) (v := ?_) (a' := ?_) #[T_, T_, T_, T_, T_, T_, T_, T_, T_, T_, T_, T_, T_, T_, T_, T_, T_, F_, F_] rfl rfl (any_of HT_.out (by kernel_rfl)) (fun _ _ _ h => h) (Or.inl ⟨by rfl, ?_⟩) ?_ ?_
      rotate_left
      ·intro w'
       go_simp
       with_reducible rfl
      rotate_left
      ·simp only [Act.put, la_, lz_, ls_, i64_w, i32_w]
       rfl
      refine one_ (i := 17) (N := some 8) #[T_, T_, T_, T_, T_, T_, T_, T_, T_, T_, T_, T_, T_, T_, T_, T_, T_, T_, F_] rfl rfl (one_of HT_.out (by kernel_rfl)) (by decide) (fun K hK => ?_)
      refine box_step ?hg (N := 8) ?hd (cs := #[.int .i64 0, .int .i64 0, .int .i64 0, .slice none 0 0]) (t := 27) ?hr ?_; (case hd => rfl); (case hg => rfl); (case hr => first | (go_simp; done) | (go_simp; rfl))
      intro gb226 hg w33 hbox hb
      have n0_ := mk_ (Kd.R_below (Kd.ur_ HO225.out) hb)
      have n1_ := mk_ (blk_below (u_ BK214.out) hb)
      have n2_ := mk_ (below_step (us_ HB.out) hb)
      have n3_ := mk_ (hbox)
      have n4_ := mk_ ((by rw [hg]; exact (below_size (us_ HB.out)) : w.heap.size ≤ gb226))
      have n5_ := mk_ ((by rw [hg]; exact (below_size (us_ HB.out)) : w.heap.size ≤ gb226))
      have n6_ := mk_ ((by rw [hg]; exact Nat.ne_of_lt (blk_lt (u_ BK214.out)) : gb214 ≠ gb226))
      have n7_ := mk_ ((by rw [hg]; exact Nat.ne_of_gt (blk_lt (u_ BK214.out)) : gb226 ≠ gb214))
      clear HO225
      clear BK214
      clear HB
      have HO225 := n0_
      have BK214 := n1_
      have HB := n2_
      have BK226 := n3_
      have GW226 := n4_
      have GE226 := ge_ n5_.out
      have NB214_226 := nq_ n6_.out
      have NB226_214 := nq_ n7_.out
      clear n0_ n1_ n2_ n3_ n4_ n5_ n6_ n7_
      clear hb hbox hg
      refine hK.out _ _ ⟨((HB.out.cell (lc_ w _ hw217_0)).trans hw217_0), ((HB.out.cell (lc_ w _ hw218_0)).trans hw218_0)⟩ (fun hHeld => ?_)
      clear hK K
      refine norm_ (a' := ?_) ?_ ?_
      rotate_left
      ·show Act.put _ (some 8) _ = _
       simp only [Act.put, la_, lz_, ls_, i64_w, i32_w]
       rfl
      exact norm_ (by simp only [putAll, Act.put, la_, lz_, ls_]) (hCont (v220, .slice Ao32 y223.length co32, gb226) _ ⟨hHeld, (Kd.ur_ HO225.out), (u_ BK214.out), (u_ BK226.out), GW226.out, GE226.out, NB214_226.out, NB226_214.out, (us_ HB.out)⟩)
     skip
     refine box_step ?hg (N := 8) ?hd (cs := #[.int .i64 0, .int .i64 0, .int .i64 0, .slice none 0 0]) (t := 27) ?hr ?_; (case hd => rfl); (case hg => rfl); (case hr => first | (go_simp; done) | (go_simp; rfl))
     intro gb226 hg w31 hbox hb
     have n0_ := mk_ (Kd.R_below (Kd.ur_ HO221.out) hb)
     have n1_ := mk_ (blk_below (u_ BK214.out) hb)
     have n2_ := mk_ (below_step (us_ HB.out) hb)
     have n3_ := mk_ (hbox)
     have n4_ := mk_ ((by rw [hg]; exact (below_size (us_ HB.out)) : w.heap.size ≤ gb226))
     have n5_ := mk_ ((by rw [hg]; exact (below_size (us_ HB.out)) : w.heap.size ≤ gb226))
     have n6_ := mk_ ((by rw [hg]; exact Nat.ne_of_lt (blk_lt (u_ BK214.out)) : gb214 ≠ gb226))
     have n7_ := mk_ ((by rw [hg]; exact Nat.ne_of_gt (blk_lt (u_ BK214.out)) : gb226 ≠ gb214))
     clear HO221
     clear BK214
     clear HB
     have HO221 := n0_
     have BK214 := n1_
     have HB := n2_
     have BK226 := n3_
     have GW226 := n4_
     have GE226 := ge_ n5_.out
     have NB214_226 := nq_ n6_.out
     have NB226_214 := nq_ n7_.out
     clear n0_ n1_ n2_ n3_ n4_ n5_ n6_ n7_
     clear hb hbox hg
     refine hK.out _ _ ⟨((HB.out.cell (lc_ w _ hw217_0)).trans hw217_0), ((HB.out.cell (lc_ w _ hw218_0)).trans hw218_0)⟩ (fun hHeld => ?_)
     clear hK K
     refine norm_ (a' := ?_) ?_ ?_
     rotate_left
     ·show Act.put _ (some 8) _ = _
      simp only [Act.put, la_, lz_, ls_, i64_w, i32_w]
      rfl
     refine one_ (i := 15) (N := some 38) #[T_, T_, T_, T_, T_, T_, T_, T_, T_, T_, T_, T_, T_, T_, T_, T_, F_, T_, F_] rfl rfl (one_of HT_.out (by kernel_rfl)) (by decide) (fun K hK => ?_)
     refine Kd.R_append_rows_step (Kd.int .u8) (w0 := w) w.heap.size (by rfl) (.tmp 32) (.tmp 37) 22 5 (.int .u8 0) 1 rfl Try.underlying22 info5 rfl (by decide) (by omega) v220 y219 ((l2.take ((ji22) : Int).toNat).drop 3) _ _ _ (fun _ => True) (fun _ => False) rfl rfl ?aO ?aR (fun _ _ h => h) (fun _ h => h.elim) ?aF ?aB ?aS ?aL ?_
     (case aR => first | (have e_ := (Kd.C_below HR222.out HB.out); rw [show ((l2.take ((ji22) : Int).toNat).drop 3).length = ((ji22).toNat - 3) from (by rw [List.length_drop, List.length_take]; have h_ : ((ji22) : Int) ≤ (l2.length : Int) := of_decide_eq_true (by first | (with_reducible assumption) | assumption); omega)] at e_; exact e_) | (rw [← show ((l2.take ((ji22) : Int).toNat).drop 3).length = ((ji22).toNat - 3) from (by rw [List.length_drop, List.length_take]; have h_ : ((ji22) : Int) ≤ (l2.length : Int) := of_decide_eq_true (by first | (with_reducible assumption) | assumption); omega)]; repeat (first | exact (Kd.C_below HR222.out HB.out) | (with_reducible refine Kd.C_alloc ?_ _) | (with_reducible refine Kd.C_drewN ?_ _) | (with_reducible refine Kd.C_drew ?_))) | (repeat (first | exact (Kd.C_below HR222.out HB.out) | (with_reducible refine Kd.C_alloc ?_ _) | (with_reducible refine Kd.C_drewN ?_ _) | (with_reducible refine Kd.C_drew ?_))))
     (case aB => exact (us_ HB.out))
     (case aF => exact (fun _ _ => trivial))
     (case aO => exact (Kd.ur_ HO221.out))
     (case aS => exact (below_size (us_ HB.out)))
     (case aL => have := LMc16.out; have hlx_ := (show ((l2.take ((ji22) : Int).toNat).drop 3).length = ((ji22).toNat - 3) from (by rw [List.length_drop, List.length_take]; have h_ : ((ji22) : Int) ≤ (l2.length : Int) := of_decide_eq_true (by first | (with_reducible assumption) | assumption); omega)); omega)
     intro v224 w32 ho hb hg hat
     rw [← Ny223.out] at ho
     have n0_ := mk_ (blk_grown (g := gb214) (o := .cells #[.int .i64 0, .int .i64 0, .int .i64 0, .slice none 0 0] 27 (0, 0)) (u_ BK214.out) hg (Kd.R_ne HO221.out BK214.out (by decide)))
     have n1_ := mk_ (blk_grown (g := gb226) (o := .cells #[.int .i64 0, .int .i64 0, .int .i64 0, .slice none 0 0] 27 (0, 0)) (u_ BK226.out) hg (Kd.R_ne HO221.out BK226.out (by decide)))
     have n2_ := mk_ (hb)
     have n3_ := mk_ (ho)
     clear BK214
     clear BK226
     clear HB
     clear HO221
     have BK214 := n0_
     have BK226 := n1_
     have HB := n2_
     have HO225 := n3_
     clear n0_ n1_ n2_ n3_
     clear ho hb hg hat
     obtain ⟨Ao33, co33, eo33⟩ := Kd.R_slice HO225.out
     (first | subst eo33 | (injection eo33 with f1_ f2_ f3_; have f4_ := f1_.symm; have f5_ := f3_.symm; clear f1_ f2_ f3_; subst f4_; subst f5_))
     refine hK.out _ _ ⟨((HB.out.cell (lc_ w _ hw217_0)).trans hw217_0), ((HB.out.cell (lc_ w _ hw218_0)).trans hw218_0)⟩ (fun hHeld => ?_)
     clear hK K
     refine norm_ (a' := ?_) ?_ ?_
     rotate_left
     ·show Act.put _ (some 38) _ = _
      simp only [Act.put, la_, lz_, ls_, i64_w, i32_w]
      rfl
     refine pure_ (i := 16) (N := some 39) (v := ?_) (a' := ?_) #[T_, T_, T_, T_, T_, T_, T_, T_, T_, T_, T_, T_, T_, T_, T_, T_, T_, T_, F_] rfl rfl (any_of HT_.out (by kernel_rfl)) (fun _ _ _ h => h) (Or.inl ⟨by rfl, ?_⟩) ?_ ?_
     rotate_left
     ·intro w'
      go_simp
      with_reducible rfl
     rotate_left
     ·simp only [Act.put, la_, lz_, ls_, i64_w, i32_w]
      rfl
     exact norm_ (by simp only [putAll, Act.put, la_, lz_, ls_]) (hCont (v220, .slice Ao33 y223.length co33, gb226) _ ⟨hHeld, (Kd.ur_ HO225.out), (u_ BK214.out), (u_ BK226.out), GW226.out, GE226.out, NB214_226.out, NB226_214.out, (us_ HB.out)⟩)
    skip
    refine box_step ?hg (N := 8) ?hd (cs := #[.int .i64 0, .int .i64 0, .int .i64 0, .slice none 0 0]) (t := 27) ?hr ?_; (case hd => rfl); (case hg => rfl); (case hr => first | (go_simp; done) | (go_simp; rfl))
    intro gb226 hg w29 hbox hb
    have n0_ := mk_ (blk_below (u_ BK214.out) hb)
    have n1_ := mk_ (below_step (us_ HB.out) hb)
    have n2_ := mk_ (hbox)
    have n3_ := mk_ ((by rw [hg]; exact (below_size (us_ HB.out)) : w.heap.size ≤ gb226))
    have n4_ := mk_ ((by rw [hg]; exact (below_size (us_ HB.out)) : w.heap.size ≤ gb226))
    have n5_ := mk_ ((by rw [hg]; exact Nat.ne_of_lt (blk_lt (u_ BK214.out)) : gb214 ≠ gb226))
    have n6_ := mk_ ((by rw [hg]; exact Nat.ne_of_gt (blk_lt (u_ BK214.out)) : gb226 ≠ gb214))
    clear BK214
    clear HB
    have BK214 := n0_
    have HB := n1_
    have BK226 := n2_
    have GW226 := n3_
    have GE226 := ge_ n4_.out
    have NB214_226 := nq_ n5_.out
    have NB226_214 := nq_ n6_.out
    clear n0_ n1_ n2_ n3_ n4_ n5_ n6_
    clear hb hbox hg
    refine hK.out _ _ ⟨((HB.out.cell (lc_ w _ hw217_0)).trans hw217_0), ((HB.out.cell (lc_ w _ hw218_0)).trans hw218_0)⟩ (fun hHeld => ?_)
    clear hK K
    refine norm_ (a' := ?_) ?_ ?_
    rotate_left
    ·show Act.put _ (some 8) _ = _
     simp only [Act.put, la_, lz_, ls_, i64_w, i32_w]
     rfl
    refine one_ (i := 9) (N := some 32) #[T_, T_, T_, T_, T_, T_, T_, T_, T_, T_, T_, T_, T_, T_, T_, F_, F_, T_, F_] rfl rfl (one_of HT_.out (by kernel_rfl)) (by decide) (fun K hK => ?_)
    refine Kd.R_lit_step (Kd.int .u8) _ 5 ?hg (N := 32) ?hd (xs := ([] : List Int)) (inner := []) (ok := fun _ => True) (okp := fun _ => True) ?hr ?hp (fun _ hk => hk) trivial (Below.refl _ _) (Nat.le_refl _) (by simp) ?_; (case hd => rfl); (case hg => rfl); (case hr => first | (go_simp; done) | (go_simp; rfl)); (case hp => exact (Reps.none _ _))
    intro v220 w30 ho31 hb hg_ hnew_
    clear hg_ hnew_
    (first | rw [← Ny219.out] at ho31 | (simp only [Int.reduceToNat] at ho31; rw [← Ny219.out] at ho31))
    have n0_ := mk_ (Kd.R_lower ho31 (below_size (us_ HB.out)))
    have n1_ := mk_ (blk_below (u_ BK214.out) hb)
    have n2_ := mk_ (blk_below (u_ BK226.out) hb)
    have n3_ := mk_ (below_step (us_ HB.out) hb)
    clear BK214
    clear BK226
    clear HB
    have HO221 := n0_
    have BK214 := n1_
    have BK226 := n2_
    have HB := n3_
    clear n0_ n1_ n2_ n3_
    clear hb ho31
    refine hK.out _ _ ⟨((HB.out.cell (lc_ w _ hw217_0)).trans hw217_0), ((HB.out.cell (lc_ w _ hw218_0)).trans hw218_0)⟩ (fun hHeld => ?_)
    clear hK K
    refine norm_ (a' := ?_) ?_ ?_
    rotate_left
    ·show Act.put _ (some 32) _ = _
     simp only [Act.put, la_, lz_, ls_, i64_w, i32_w]
     rfl
    refine one_ (i := 15) (N := some 38) #[T_, T_, T_, T_, T_, T_, T_, T_, T_, T_, T_, T_, T_, T_, T_, T_, F_, T_, F_] rfl rfl (one_of HT_.out (by kernel_rfl)) (by decide) (fun K hK => ?_)
    refine Kd.R_append_rows_step (Kd.int .u8) (w0 := w) w.heap.size (by rfl) (.tmp 32) (.tmp 37) 22 5 (.int .u8 0) 1 rfl Try.underlying22 info5 rfl (by decide) (by omega) v220 y219 ((l2.take ((ji22) : Int).toNat).drop 3) _ _ _ (fun _ => True) (fun _ => False) rfl rfl ?aO ?aR (fun _ _ h => h) (fun _ h => h.elim) ?aF ?aB ?aS ?aL ?_
    (case aR => first | (have e_ := (Kd.C_below HR222.out HB.out); rw [show ((l2.take ((ji22) : Int).toNat).drop 3).length = ((ji22).toNat - 3) from (by rw [List.length_drop, List.length_take]; have h_ : ((ji22) : Int) ≤ (l2.length : Int) := of_decide_eq_true (by first | (with_reducible assumption) | assumption); omega)] at e_; exact e_) | (rw [← show ((l2.take ((ji22) : Int).toNat).drop 3).length = ((ji22).toNat - 3) from (by rw [List.length_drop, List.length_take]; have h_ : ((ji22) : Int) ≤ (l2.length : Int) := of_decide_eq_true (by first | (with_reducible assumption) | assumption); omega)]; repeat (first | exact (Kd.C_below HR222.out HB.out) | (with_reducible refine Kd.C_alloc ?_ _) | (with_reducible refine Kd.C_drewN ?_ _) | (with_reducible refine Kd.C_drew ?_))) | (repeat (first | exact (Kd.C_below HR222.out HB.out) | (with_reducible refine Kd.C_alloc ?_ _) | (with_reducible refine Kd.C_drewN ?_ _) | (with_reducible refine Kd.C_drew ?_))))
    (case aB => exact (us_ HB.out))
    (case aF => exact (fun _ _ => trivial))
    (case aO => exact (Kd.ur_ HO221.out))
    (case aS => exact (below_size (us_ HB.out)))
    (case aL => have := LMc16.out; have hlx_ := (show ((l2.take ((ji22) : Int).toNat).drop 3).length = ((ji22).toNat - 3) from (by rw [List.length_drop, List.length_take]; have h_ : ((ji22) : Int) ≤ (l2.length : Int) := of_decide_eq_true (by first | (with_reducible assumption) | assumption); omega)); omega)
    intro v224 w32 ho hb hg hat
    rw [← Ny223.out] at ho
    have n0_ := mk_ (blk_grown (g := gb214) (o := .cells #[.int .i64 0, .int .i64 0, .int .i64 0, .slice none 0 0] 27 (0, 0)) (u_ BK214.out) hg (Kd.R_ne HO221.out BK214.out (by decide)))
    have n1_ := mk_ (blk_grown (g := gb226) (o := .cells #[.int .i64 0, .int .i64 0, .int .i64 0, .slice none 0 0] 27 (0, 0)) (u_ BK226.out) hg (Kd.R_ne HO221.out BK226.out (by decide)))
    have n2_ := mk_ (hb)
    have n3_ := mk_ (ho)
    clear BK214
    clear BK226
    clear HB
    clear HO221
    have BK214 := n0_
    have BK226 := n1_
    have HB := n2_
    have HO225 := n3_
    clear n0_ n1_ n2_ n3_
    clear ho hb hg hat
    obtain ⟨Ao33, co33, eo33⟩ := Kd.R_slice HO225.out
    (first | subst eo33 | (injection eo33 with f1_ f2_ f3_; have f4_ := f1_.symm; have f5_ := f3_.symm; clear f1_ f2_ f3_; subst f4_; subst f5_))
    refine hK.out _ _ ⟨((HB.out.cell (lc_ w _ hw217_0)).trans hw217_0), ((HB.out.cell (lc_ w _ hw218_0)).trans hw218_0)⟩ (fun hHeld => ?_)
    clear hK K
    refine norm_ (a' := ?_) ?_ ?_
    rotate_left
    ·show Act.put _ (some 38) _ = _
     simp only [Act.put, la_, lz_, ls_, i64_w, i32_w]
     rfl
    refine pure_ (i := 16) (N := some 39) (v := ?_) (a' := ?_) #[T_, T_, T_, T_, T_, T_, T_, T_, T_, T_, T_, T_, T_, T_, T_, T_, T_, T_, F_] rfl rfl (any_of HT_.out (by kernel_rfl)) (fun _ _ _ h => h) (Or.inl ⟨by rfl, ?_⟩) ?_ ?_
    rotate_left
    ·intro w'
     go_simp
     with_reducible rfl
    rotate_left
    ·simp only [Act.put, la_, lz_, ls_, i64_w, i32_w]
     rfl
    exact norm_ (by simp only [putAll, Act.put, la_, lz_, ls_]) (hCont (v220, .slice Ao33 y223.length co33, gb226) _ ⟨hHeld, (Kd.ur_ HO225.out), (u_ BK214.out), (u_ BK226.out), GW226.out, GE226.out, NB214_226.out, NB226_214.out, (us_ HB.out)⟩)
   rintro ⟨v220, v224, gb226⟩ w34 ⟨hS_, h0_, h1_, h2_, h3_, h4_, h5_, h6_, h7_⟩
   have n0_ : Aside0 (Kd.R (Kd.int .u8) 5 w34 w.heap.size (fun _ => True) v224 y223) := ⟨h0_⟩
   have n1_ : Aside0 (w34.heap[gb214]? = some (.cells #[.int .i64 0, .int .i64 0, .int .i64 0, .slice none 0 0] 27 (0, 0))) := ⟨h1_⟩
   have n2_ : Aside0 (w34.heap[gb226]? = some (.cells #[.int .i64 0, .int .i64 0, .int .i64 0, .slice none 0 0] 27 (0, 0))) := ⟨h2_⟩
   have n3_ : Aside0 (w.heap.size ≤ gb226) := ⟨h3_⟩
   have n4_ : Aside0 (w.heap.size ≤ gb226) := ⟨h4_⟩
   have n5_ : Aside0 (gb214 ≠ gb226) := ⟨h5_⟩
   have n6_ : Aside0 (gb226 ≠ gb214) := ⟨h6_⟩
   have n7_ : Aside0 (Below w.heap.size w w34) := ⟨h7_⟩
   clear BK214
   clear HB
   clear h0_ h1_ h2_ h3_ h4_ h5_ h6_ h7_
   have HO225 := n0_
   have BK214 := n1_
   have BK226 := n2_
   have GW226 := n3_
   have GE226 := ge_ n4_.out
   have NB214_226 := nq_ n5_.out
   have NB226_214 := nq_ n6_.out
   have HB := n7_
   clear n0_ n1_ n2_ n3_ n4_ n5_ n6_ n7_
   have hHeld : w34.cell? ad217 = some (.int .u8 (rd l2 0)) ∧ w34.cell? ⟨ad217.block, ad217.off + 1, none⟩ = some (.int .u8 (rd l2 1)) := hS_
   obtain ⟨Ao35, co35, eo35⟩ := Kd.R_slice HO225.out
   (first | subst eo35 | (injection eo35 with f1_ f2_ f3_; have f4_ := f1_.symm; have f5_ := f3_.symm; clear f1_ f2_ f3_; subst f4_; subst f5_))
   refine norm_ (a' := ?_) ?_ ?_
   rotate_left
   ·simp only [putAll, Act.put, la_, lz_, ls_]
    rfl
   refine one_ (i := 18) (N := none) #[T_, T_, T_, T_, T_, T_, T_, T_, T_, T_, T_, T_, T_, T_, T_, T_, T_, T_, T_] rfl rfl (one_of HT_.out (by kernel_rfl)) (by decide) (fun K hK => ?_)
   have hs36 : w34.cell? ⟨gb226, 0, none⟩ = some (.int .i64 0) := (blk_cell BK226.out 0).trans rfl
   have hfs36 := blk_frozen BK226.out 0
   have hns36_0 := NB214_226.out
   have hms36_0 := NB226_214.out
   have hs37 : w34.cell? ⟨gb226, 1, none⟩ = some (.int .i64 0) := (blk_cell BK226.out 1).trans rfl
   have hfs37 := blk_frozen BK226.out 1
   have hns37_0 := NB214_226.out
   have hms37_0 := NB226_214.out
   have hs38 : w34.cell? ⟨gb226, 2, none⟩ = some (.int .i64 0) := (blk_cell BK226.out 2).trans rfl
   have hfs38 := blk_frozen BK226.out 2
   have hns38_0 := NB214_226.out
   have hms38_0 := NB226_214.out
   have hs39 : w34.cell? ⟨gb226, 3, none⟩ = some (.slice none 0 0) := (blk_cell BK226.out 3).trans rfl
   have hfs39 := blk_frozen BK226.out 3
   have hns39_0 := NB214_226.out
   have hms39_0 := NB226_214.out
   refine skip_ (w1 := ?_) (by rfl) rfl ?_ ?_
   rotate_left
   ·go_simp
    rfl
   refine hK.out _ _ ⟨((cell_far (p := ⟨gb226, _, none⟩) (by first | exact (ne1_ (by have := lc_ _ _ hw217_0; first | rwa [add_block] at this | exact this) GW226.out) | (rw [add_block]; exact (ne1_ (by have := lc_ _ _ hw217_0; first | rwa [add_block] at this | exact this) GW226.out)) | (show (Addr.add _ _).block ≠ _; rw [add_block]; exact (ne1_ (by have := lc_ _ _ hw217_0; first | rwa [add_block] at this | exact this) GW226.out)) | (dsimp only; exact (ne1_ (by have := lc_ _ _ hw217_0; first | rwa [add_block] at this | exact this) GW226.out))) _).trans (((cell_far (p := ⟨gb226, _, none⟩) (by first | exact (ne1_ (by have := lc_ _ _ hw217_0; first | rwa [add_block] at this | exact this) GW226.out) | (rw [add_block]; exact (ne1_ (by have := lc_ _ _ hw217_0; first | rwa [add_block] at this | exact this) GW226.out)) | (show (Addr.add _ _).block ≠ _; rw [add_block]; exact (ne1_ (by have := lc_ _ _ hw217_0; first | rwa [add_block] at this | exact this) GW226.out)) | (dsimp only; exact (ne1_ (by have := lc_ _ _ hw217_0; first | rwa [add_block] at this | exact this) GW226.out))) _).trans (((cell_far (p := ⟨gb226, _, none⟩) (by first | exact (ne1_ (by have := lc_ _ _ hw217_0; first | rwa [add_block] at this | exact this) GW226.out) | (rw [add_block]; exact (ne1_ (by have := lc_ _ _ hw217_0; first | rwa [add_block] at this | exact this) GW226.out)) | (show (Addr.add _ _).block ≠ _; rw [add_block]; exact (ne1_ (by have := lc_ _ _ hw217_0; first | rwa [add_block] at this | exact this) GW226.out)) | (dsimp only; exact (ne1_ (by have := lc_ _ _ hw217_0; first | rwa [add_block] at this | exact this) GW226.out))) _).trans (((cell_far (p := ⟨gb226, _, none⟩) (by first | exact (ne1_ (by have := lc_ _ _ hw217_0; first | rwa [add_block] at this | exact this) GW226.out) | (rw [add_block]; exact (ne1_ (by have := lc_ _ _ hw217_0; first | rwa [add_block] at this | exact this) GW226.out)) | (show (Addr.add _ _).block ≠ _; rw [add_block]; exact (ne1_ (by have := lc_ _ _ hw217_0; first | rwa [add_block] at this | exact this) GW226.out)) | (dsimp only; exact (ne1_ (by have := lc_ _ _ hw217_0; first | rwa [add_block] at this | exact this) GW226.out))) _).trans (hHeld.1)))))))), ((cell_far (p := ⟨gb226, _, none⟩) (by first | exact (ne1_ (by have := lc_ _ _ hw218_0; first | rwa [add_block] at this | exact this) GW226.out) | (rw [add_block]; exact (ne1_ (by have := lc_ _ _ hw218_0; first | rwa [add_block] at this | exact this) GW226.out)) | (show (Addr.add _ _).block ≠ _; rw [add_block]; exact (ne1_ (by have := lc_ _ _ hw218_0; first | rwa [add_block] at this | exact this) GW226.out)) | (dsimp only; exact (ne1_ (by have := lc_ _ _ hw218_0; first | rwa [add_block] at this | exact this) GW226.out))) _).trans (((cell_far (p := ⟨gb226, _, none⟩) (by first | exact (ne1_ (by have := lc_ _ _ hw218_0; first | rwa [add_block] at this | exact this) GW226.out) | (rw [add_block]; exact (ne1_ (by have := lc_ _ _ hw218_0; first | rwa [add_block] at this | exact this) GW226.out)) | (show (Addr.add _ _).block ≠ _; rw [add_block]; exact (ne1_ (by have := lc_ _ _ hw218_0; first | rwa [add_block] at this | exact this) GW226.out)) | (dsimp only; exact (ne1_ (by have := lc_ _ _ hw218_0; first | rwa [add_block] at this | exact this) GW226.out))) _).trans (((cell_far (p := ⟨gb226, _, none⟩) (by first | exact (ne1_ (by have := lc_ _ _ hw218_0; first | rwa [add_block] at this | exact this) GW226.out) | (rw [add_block]; exact (ne1_ (by have := lc_ _ _ hw218_0; first | rwa [add_block] at this | exact this) GW226.out)) | (show (Addr.add _ _).block ≠ _; rw [add_block]; exact (ne1_ (by have := lc_ _ _ hw218_0; first | rwa [add_block] at this | exact this) GW226.out)) | (dsimp only; exact (ne1_ (by have := lc_ _ _ hw218_0; first | rwa [add_block] at this | exact this) GW226.out))) _).trans (((cell_far (p := ⟨gb226, _, none⟩) (by first | exact (ne1_ (by have := lc_ _ _ hw218_0; first | rwa [add_block] at this | exact this) GW226.out) | (rw [add_block]; exact (ne1_ (by have := lc_ _ _ hw218_0; first | rwa [add_block] at this | exact this) GW226.out)) | (show (Addr.add _ _).block ≠ _; rw [add_block]; exact (ne1_ (by have := lc_ _ _ hw218_0; first | rwa [add_block] at this | exact this) GW226.out)) | (dsimp only; exact (ne1_ (by have := lc_ _ _ hw218_0; first | rwa [add_block] at this | exact this) GW226.out))) _).trans (hHeld.2))))))))⟩ (fun hHeld => ?_)
   clear hK K
   refine done_ (done_of HT_.out (by kernel_rfl)) ?_
   obtain ⟨i040, hi040, _, hsz40, _⟩ := info_parts info5
   obtain ⟨hcut40, hA40, hC40⟩ := print_take_of (P := Try.prog) (Value.int .u8) 0 22 5 .i64 Try.underlying22 hi040 hsz40 (some ad217) c2 l2 (ji22) (of_decide_eq_true (by first | (with_reducible assumption) | assumption)) (of_decide_eq_true (by first | (with_reducible assumption) | assumption)) HC2.out
   have HR230 := mk_ (Kd.C_of_reads (h1 := fun _ => rfl) (hA40 _ (Kd.reads_of_C HR2.out)))
   have HC230 := mk_ hC40
   clear hA40 hC40 hi040 hsz40
   try go_wp2
   have n0_ : Aside0 (Kd.R (Kd.int .u8) 5 ((((w34.setCell ⟨gb226, 0, none⟩ (.int .i64 a0)).setCell ⟨gb226, 1, none⟩ (.int .i64 (wrap64 (rd l2 0)))).setCell ⟨gb226, 2, none⟩ (.int .i64 (wrap64 (rd l2 1)))).setCell ⟨gb226, 3, none⟩ (.slice Ao35 y223.length co35)) w.heap.size (fun _ => True) (.slice Ao35 y223.length co35) y223) := ⟨by (with_reducible repeat (first | apply Kd.R_alloc | apply Kd.R_drewN | apply Kd.R_drew)); exact Kd.R_mono (Kd.R_far (p := ⟨gb226, 3, none⟩) (Kd.R_far (p := ⟨gb226, 2, none⟩) (Kd.R_far (p := ⟨gb226, 1, none⟩) (Kd.R_far (p := ⟨gb226, 0, none⟩) (Kd.R_types HO225.out BK226.out (by decide)) (fun _ hk => hk.2) (.int .i64 a0)) (fun _ hk => hk.2) (.int .i64 (wrap64 (rd l2 0)))) (fun _ hk => hk.2) (.int .i64 (wrap64 (rd l2 1)))) (fun _ hk => hk.2) (.slice Ao35 y223.length co35)) (fun _ hk => trivial)⟩
   have n1_ : Aside0 (((((w34.setCell ⟨gb226, 0, none⟩ (.int .i64 a0)).setCell ⟨gb226, 1, none⟩ (.int .i64 (wrap64 (rd l2 0)))).setCell ⟨gb226, 2, none⟩ (.int .i64 (wrap64 (rd l2 1)))).setCell ⟨gb226, 3, none⟩ (.slice Ao35 y223.length co35)).heap[gb214]? = some (.cells #[.int .i64 0, .int .i64 0, .int .i64 0, .slice none 0 0] 27 (0, 0))) := ⟨uf_ BK214.out⟩
   have n2_ : Aside0 (((((w34.setCell ⟨gb226, 0, none⟩ (.int .i64 a0)).setCell ⟨gb226, 1, none⟩ (.int .i64 (wrap64 (rd l2 0)))).setCell ⟨gb226, 2, none⟩ (.int .i64 (wrap64 (rd l2 1)))).setCell ⟨gb226, 3, none⟩ (.slice Ao35 y223.length co35)).heap[gb226]? = some (.cells #[.int .i64 a0, .int .i64 (wrap64 (rd l2 0)), .int .i64 (wrap64 (rd l2 1)), .slice Ao35 y223.length co35] 27 (0, 0))) := ⟨by (with_reducible repeat (first | refine bn_ ?_ _ | refine bw_ ?_ | refine ba_ ?_ _)); refine blk_put (cs := #[.int .i64 a0, .int .i64 (wrap64 (rd l2 0)), .int .i64 (wrap64 (rd l2 1)), .slice none 0 0]) ?_ 3 _ rfl; (with_reducible repeat (first | refine bn_ ?_ _ | refine bw_ ?_ | refine ba_ ?_ _)); refine blk_put (cs := #[.int .i64 a0, .int .i64 (wrap64 (rd l2 0)), .int .i64 0, .slice none 0 0]) ?_ 2 _ rfl; (with_reducible repeat (first | refine bn_ ?_ _ | refine bw_ ?_ | refine ba_ ?_ _)); refine blk_put (cs := #[.int .i64 a0, .int .i64 0, .int .i64 0, .slice none 0 0]) ?_ 1 _ rfl; (with_reducible repeat (first | refine bn_ ?_ _ | refine bw_ ?_ | refine ba_ ?_ _)); refine blk_put (cs := #[.int .i64 0, .int .i64 0, .int .i64 0, .slice none 0 0]) ?_ 0 _ rfl; (with_reducible repeat (first | refine bn_ ?_ _ | refine bw_ ?_ | refine ba_ ?_ _)); exact BK226.out⟩
   have n3_ : Aside0 (Below w.heap.size w ((((w34.setCell ⟨gb226, 0, none⟩ (.int .i64 a0)).setCell ⟨gb226, 1, none⟩ (.int .i64 (wrap64 (rd l2 0)))).setCell ⟨gb226, 2, none⟩ (.int .i64 (wrap64 (rd l2 1)))).setCell ⟨gb226, 3, none⟩ (.slice Ao35 y223.length co35))) := ⟨us_ HB.out⟩
   (try clear HO225)
   (try clear BK214)
   (try clear BK226)
   (try clear HB)
   generalize ((((w34.setCell ⟨gb226, 0, none⟩ (.int .i64 a0)).setCell ⟨gb226, 1, none⟩ (.int .i64 (wrap64 (rd l2 0)))).setCell ⟨gb226, 2, none⟩ (.int .i64 (wrap64 (rd l2 1)))).setCell ⟨gb226, 3, none⟩ (.slice Ao35 y223.length co35)) = w41 at n0_ n1_ n2_ n3_ ⊢
   have HO225 := n0_
   have BK214 := n1_
   have BK226 := n2_
   have HB := n3_
   clear n0_ n1_ n2_ n3_
   have n0_ := mk_ (Kd.R_drew HO225.out)
   have n1_ := mk_ (blk_drew BK214.out)
   have n2_ := mk_ (blk_drew BK226.out)
   have n3_ := mk_ (below_drew1 HB.out)
   clear HO225
   clear BK214
   clear BK226
   clear HB
   have HO225 := n0_
   have BK214 := n1_
   have BK226 := n2_
   have HB := n3_
   clear n0_ n1_ n2_ n3_
   have p228 : 0 ≤ (2 : Int) := (by omega)
   have q228 : 2 < (l2.length : Int) := of_decide_eq_true (by first | (with_reducible assumption) | assumption)
   obtain ⟨ad228, e228, hx228_0⟩ := Kd.at_int HR2.out 2 p228 q228
   have hw228_0 := hx228_0
   (try rw [show ((2 : Int)).toNat = 2 from rfl] at hw228_0)
   (try rw [show 2 * 1 = 2 from rfl] at hw228_0)
   (try simp only [Nat.reduceMul, Nat.reduceEqDiff, Go.Addr.add, ↓reduceIte] at hw228_0)
   obtain rfl : ad217 = ad228 := (by injection e228)
   (try simp only [show (2 : Int).toNat = 2 from rfl, Nat.reduceMul, Nat.reduceEqDiff, Go.Addr.add, ↓reduceIte] at hx228_0)
   have qi228 : (2 < l2.length) = True := eq_true (by omega)
   (try rw [show ((2 : Int)).toNat = 2 from rfl] at hx228_0)
   replace hx228_0 := (HB.out.cell (lc_ w _ hx228_0)).trans hx228_0
   replace p228 := eq_true p228
   replace q228 := eq_true q228
   refine start_ (n := 29) (S := fun w' => w'.cell? ⟨gb226, 0, none⟩ = some (.int .i64 a0) ∧ w'.cell? ⟨gb226, 1, none⟩ = some (.int .i64 (wrap64 (rd l2 0))) ∧ w'.cell? ⟨gb226, 2, none⟩ = some (.int .i64 (wrap64 (rd l2 1))) ∧ w'.cell? ⟨gb226, 3, none⟩ = some (.slice Ao35 y223.length co35) ∧ w'.cell? ⟨ad217.block, ad217.off + 2, none⟩ = some (.int .u8 (rd l2 2))) (ds := []) #[F_, F_, F_, F_, F_, F_, F_, F_, F_, F_, F_, F_, F_, F_, F_, F_, F_, F_, F_, F_, F_, F_, F_, F_, F_, F_, F_, F_, F_] (by kernel_rfl) rfl rfl ⟨(blk_cell BK226.out 0).trans rfl, (blk_cell BK226.out 1).trans rfl, (blk_cell BK226.out 2).trans rfl, (blk_cell BK226.out 3).trans rfl, ((HB.out.cell (lc_ w _ hw228_0)).trans hw228_0)⟩ (fun hHeld => ?_); refine with_tabW spec_MailFrom.tab4 spec_MailFrom.bits4 (fun HT_ HW_ => ?_)
   generalize w41.drew = w42 at HO225 BK214 BK226 HB hx228_0 hHeld ⊢
   refine take_ (i := 0) (N := some 40) (v := ?_) (a' := ?_) #[T_, F_, F_, F_, F_, F_, F_, F_, F_, F_, F_, F_, F_, F_, F_, F_, F_, F_, F_, F_, F_, F_, F_, F_, F_, F_, F_, F_, F_] rfl rfl (take_ofW HT_.out HW_.out (by kernel_rfl)) (fun _ _ _ h => h) (Or.inl ⟨by rfl, ?_⟩) hHeld ?_ ?_
   rotate_left
   ·rintro w' ⟨s0, s1, s2, s3, s4⟩
    go_simp
    with_reducible rfl
   rotate_left
   ·simp only [Act.put, la_, lz_, ls_, i64_w, i32_w]
    rfl
   refine one_ (i := 1) (N := some 41) #[T_, T_, F_, F_, F_, F_, F_, F_, F_, F_, F_, F_, F_, F_, F_, F_, F_, F_, F_, F_, F_, F_, F_, F_, F_, F_, F_, F_, F_] rfl rfl (one_of HT_.out (by kernel_rfl)) (by decide) (fun K hK => ?_)
   refine goes_ Try.func34 (by kernel_rfl) rfl #[.agg #[.int .i64 a0, .int .i64 (wrap64 (rd l2 0)), .int .i64 (wrap64 (rd l2 1)), .slice Ao35 y223.length co35]] (by rfl) rfl rfl (by (try simp only [lm_, lo_, ln_]); first | done | rfl | (simp only [List.length_drop, List.length_take]; rfl)) ?_
   with_reducible refine (spec_MailOk.calls a0 (wrap64 (rd l2 0)) (wrap64 (rd l2 1)) _ _ y223 true _ ?side1 ?side2 A17.out).mono ?_
   (case side1 => repeat (first | exact (Kd.R_reads' HO225.out).2.2 | (with_reducible refine Kd.C_alloc ?_ _) | (with_reducible refine Kd.C_drewN ?_ _) | (with_reducible refine Kd.C_drew ?_)))
   (case side2 => exact (Kd.R_reads' HO225.out).2.1)
   rintro e w43 ⟨rfl, hb⟩
   refine ⟨_, rfl, ?_⟩
   have n0_ := mk_ (Kd.R_below (Kd.ur_ HO225.out) hb)
   have n1_ := mk_ (blk_below (u_ BK214.out) hb)
   have n2_ := mk_ (blk_below (u_ BK226.out) hb)
   have n3_ := mk_ (below_step (us_ HB.out) hb)
   clear HO225
   clear BK214
   clear BK226
   clear HB
   have HO225 := n0_
   have BK214 := n1_
   have BK226 := n2_
   have HB := n3_
   clear n0_ n1_ n2_ n3_
   (try clear hb)
   (try clear hb2)
   (try clear hk)
   (try clear hi)
   refine hK.out _ _ ⟨(blk_cell BK226.out 0).trans rfl, (blk_cell BK226.out 1).trans rfl, (blk_cell BK226.out 2).trans rfl, (blk_cell BK226.out 3).trans rfl, ((HB.out.cell (lc_ w _ hw228_0)).trans hw228_0)⟩ (fun hHeld => ?_)
   clear hK K
   refine norm_ (a' := ?_) ?_ ?_
   rotate_left
   ·show Act.put _ (some 41) _ = _
    simp only [Act.put, la_, lz_, ls_, i64_w, i32_w]
    rfl
   refine pure_ (i := 2) (N := some 42) (v := ?_) (a' := ?_) #[T_, T_, T_, F_, F_, F_, F_, F_, F_, F_, F_, F_, F_, F_, F_, F_, F_, F_, F_, F_, F_, F_, F_, F_, F_, F_, F_, F_, F_] rfl rfl (any_of HT_.out (by kernel_rfl)) (fun _ _ _ h => h) (Or.inl ⟨by rfl, ?_⟩) ?_ ?_
   rotate_left
   ·intro w'
    go_simp
    with_reducible rfl
   rotate_left
   ·simp only [Act.put, la_, lz_, ls_, i64_w, i32_w]
    rfl
   refine pure_ (i := 3) (N := some 43) (v := ?_) (a' := ?_) #[T_, T_, T_, T_, F_, F_, F_, F_, F_, F_, F_, F_, F_, F_, F_, F_, F_, F_, F_, F_, F_, F_, F_, F_, F_, F_, F_, F_, F_] rfl rfl (any_of HT_.out (by kernel_rfl)) (fun _ _ _ h => h) (Or.inl ⟨by rfl, ?_⟩) ?_ ?_
   rotate_left
   ·intro w'
    go_simp
    with_reducible rfl
   rotate_left
   ·simp only [Act.put, la_, lz_, ls_, i64_w, i32_w]
    rfl
   refine pure_ (i := 4) (N := some 44) (v := ?_) (a' := ?_) #[T_, T_, T_, T_, T_, F_, F_, F_, F_, F_, F_, F_, F_, F_, F_, F_, F_, F_, F_, F_, F_, F_, F_, F_, F_, F_, F_, F_, F_] rfl rfl (any_of HT_.out (by kernel_rfl)) (fun _ _ _ h => h) (Or.inl ⟨by rfl, ?_⟩) ?_ ?_
   rotate_left
   ·intro w'
    go_simp
    with_reducible rfl
   rotate_left
   ·simp only [Act.put, la_, lz_, ls_, i64_w, i32_w]
    rfl
   refine pure_ (i := 5) (N := some 45) (v := ?_) (a' := ?_) #[T_, T_, T_, T_, T_, T_, F_, F_, F_, F_, F_, F_, F_, F_, F_, F_, F_, F_, F_, F_, F_, F_, F_, F_, F_, F_, F_, F_, F_] rfl rfl (any_of HT_.out (by kernel_rfl)) (fun _ _ _ h => h) (Or.inl ⟨by rfl, ?_⟩) ?_ ?_
   rotate_left
   ·intro w'
    go_simp
    with_reducible rfl
   rotate_left
   ·simp only [Act.put, la_, lz_, ls_, i64_w, i32_w]
    rfl
   refine pure_ (i := 8) (N := some 48) (v := ?_) (a' := ?_) #[T_, T_, T_, T_, T_, T_, F_, F_, T_, F_, F_, F_, F_, F_, F_, F_, F_, F_, F_, F_, F_, F_, F_, F_, F_, F_, F_, F_, F_] rfl rfl (any_of HT_.out (by kernel_rfl)) (fun _ _ _ h => h) (Or.inl ⟨by rfl, ?_⟩) ?_ ?_
   rotate_left
   ·intro w'
    go_simp
    with_reducible rfl
   rotate_left
   ·simp only [Act.put, la_, lz_, ls_, i64_w, i32_w]
    rfl
   refine take_ (i := 6) (N := some 46) (v := ?_) (a' := ?_) #[T_, T_, T_, T_, T_, T_, T_, F_, T_, F_, F_, F_, F_, F_, F_, F_, F_, F_, F_, F_, F_, F_, F_, F_, F_, F_, F_, F_, F_] rfl rfl (take_ofW HT_.out HW_.out (by kernel_rfl)) (fun _ _ _ h => h) (Or.inl ⟨by rfl, ?_⟩) hHeld ?_ ?_
   rotate_left
   ·rintro w' ⟨s0, s1, s2, s3, s4⟩
    go_simp
    with_reducible rfl
   rotate_left
   ·simp only [Act.put, la_, lz_, ls_, i64_w, i32_w]
    rfl
   refine pure_ (i := 7) (N := some 47) (v := ?_) (a' := ?_) #[T_, T_, T_, T_, T_, T_, T_, T_, T_, F_, F_, F_, F_, F_, F_, F_, F_, F_, F_, F_, F_, F_, F_, F_, F_, F_, F_, F_, F_] rfl rfl (any_of HT_.out (by kernel_rfl)) (fun _ _ _ h => h) (Or.inl ⟨by rfl, ?_⟩) ?_ ?_
   rotate_left
   ·intro w'
    go_simp
    with_reducible rfl
   rotate_left
   ·simp only [Act.put, la_, lz_, ls_, i64_w, i32_w]
    rfl
   refine take_ (i := 9) (N := some 49) (v := ?_) (a' := ?_) #[T_, T_, T_, T_, T_, T_, T_, T_, T_, T_, F_, F_, F_, F_, F_, F_, F_, F_, F_, F_, F_, F_, F_, F_, F_, F_, F_, F_, F_] rfl rfl (take_ofW HT_.out HW_.out (by kernel_rfl)) (fun _ _ _ h => h) (Or.inl ⟨by rfl, ?_⟩) hHeld ?_ ?_
   rotate_left
   ·rintro w' ⟨s0, s1, s2, s3, s4⟩
    go_simp
    with_reducible rfl
   rotate_left
   ·simp only [Act.put, la_, lz_, ls_, i64_w, i32_w]
    rfl
   refine pure_ (i := 10) (N := some 50) (v := ?_) (a' := ?_) #[T_, T_, T_, T_, T_, T_, T_, T_, T_, T_, T_, F_, F_, F_, F_, F_, F_, F_, F_, F_, F_, F_, F_, F_, F_, F_, F_, F_, F_] rfl rfl (any_of HT_.out (by kernel_rfl)) (fun _ _ _ h => h) (Or.inl ⟨by rfl, ?_⟩) ?_ ?_
   rotate_left
   ·intro w'
    go_simp
    with_reducible rfl
   rotate_left
   ·simp only [Act.put, la_, lz_, ls_, i64_w, i32_w]
    rfl
   refine pure_ (i := 11) (N := some 51) (v := ?_) (a' := ?_) #[T_, T_, T_, T_, T_, T_, T_, T_, T_, T_, T_, T_, F_, F_, F_, F_, F_, F_, F_, F_, F_, F_, F_, F_, F_, F_, F_, F_, F_] rfl rfl (any_of HT_.out (by kernel_rfl)) (fun _ _ _ h => h) (Or.inl ⟨by rfl, ?_⟩) ?_ ?_
   rotate_left
   ·intro w'
    go_simp
    with_reducible rfl
   rotate_left
   ·simp only [Act.put, la_, lz_, ls_, i64_w, i32_w]
    rfl
   refine pure_ (i := 12) (N := some 52) (v := ?_) (a' := ?_) #[T_, T_, T_, T_, T_, T_, T_, T_, T_, T_, T_, T_, T_, F_, F_, F_, F_, F_, F_, F_, F_, F_, F_, F_, F_, F_, F_, F_, F_] rfl rfl (any_of HT_.out (by kernel_rfl)) (fun _ _ _ h => h) (Or.inl ⟨by rfl, ?_⟩) ?_ ?_
   rotate_left
   ·intro w'
    go_simp
    with_reducible rfl
   rotate_left
   ·simp only [Act.put, la_, lz_, ls_, i64_w, i32_w]
    rfl
   refine pure_ (i := 13) (N := some 53) (v := ?_) (a' := ?_) #[T_, T_, T_, T_, T_, T_, T_, T_, T_, T_, T_, T_, T_, T_, F_, F_, F_, F_, F_, F_, F_, F_, F_, F_, F_, F_, F_, F_, F_] rfl rfl (any_of HT_.out (by kernel_rfl)) (fun _ _ _ h => h) (Or.inl ⟨by rfl, ?_⟩) ?_ ?_
   rotate_left
   ·intro w'
    go_simp
    with_reducible rfl
   rotate_left
   ·simp only [Act.put, la_, lz_, ls_, i64_w, i32_w]
    rfl
   refine pure_ (i := 14) (N := some 54) (v := ?_) (a' := ?_) #[T_, T_, T_, T_, T_, T_, T_, T_, T_, T_, T_, T_, T_, T_, T_, F_, F_, F_, F_, F_, F_, F_, F_, F_, F_, F_, F_, F_, F_] rfl rfl (any_of HT_.out (by kernel_rfl)) (fun _ _ _ h => h) (Or.inl ⟨by rfl, ?_⟩) ?_ ?_
   rotate_left
   ·intro w'
    go_simp
    with_reducible rfl
   rotate_left
   ·simp only [Act.put, la_, lz_, ls_, i64_w, i32_w]
    rfl
   refine pure_ (i := 15) (N := some 55) (v := ?_) (a' := ?_) #[T_, T_, T_, T_, T_, T_, T_, T_, T_, T_, T_, T_, T_, T_, T_, T_, F_, F_, F_, F_, F_, F_, F_, F_, F_, F_, F_, F_, F_] rfl rfl (any_of HT_.out (by kernel_rfl)) (fun _ _ _ h => h) (Or.inl ⟨by rfl, ?_⟩) ?_ ?_
   rotate_left
   ·intro w'
    go_simp
    with_reducible rfl
   rotate_left
   ·simp only [Act.put, la_, lz_, ls_, i64_w, i32_w]
    rfl
   refine pure_ (i := 16) (N := some 56) (v := ?_) (a' := ?_) #[T_, T_, T_, T_, T_, T_, T_, T_, T_, T_, T_, T_, T_, T_, T_, T_, T_, F_, F_, F_, F_, F_, F_, F_, F_, F_, F_, F_, F_] rfl rfl (any_of HT_.out (by kernel_rfl)) (fun _ _ _ h => h) (Or.inl ⟨by rfl, ?_⟩) ?_ ?_
   rotate_left
   ·intro w'
    go_simp
    with_reducible rfl
   rotate_left
   ·simp only [Act.put, la_, lz_, ls_, i64_w, i32_w]
    rfl
   refine pure_ (i := 17) (N := some 57) (v := ?_) (a' := ?_) #[T_, T_, T_, T_, T_, T_, T_, T_, T_, T_, T_, T_, T_, T_, T_, T_, T_, T_, F_, F_, F_, F_, F_, F_, F_, F_, F_, F_, F_] rfl rfl (any_of HT_.out (by kernel_rfl)) (fun _ _ _ h => h) (Or.inl ⟨by rfl, ?_⟩) ?_ ?_
   rotate_left
   ·intro w'
    go_simp
    with_reducible rfl
   rotate_left
   ·simp only [Act.put, la_, lz_, ls_, i64_w, i32_w]
    rfl
   refine pure_ (i := 19) (N := some 59) (v := ?_) (a' := ?_) #[T_, T_, T_, T_, T_, T_, T_, T_, T_, T_, T_, T_, T_, T_, T_, T_, T_, T_, F_, T_, F_, F_, F_, F_, F_, F_, F_, F_, F_] rfl rfl (any_of HT_.out (by kernel_rfl)) (fun _ _ _ h => h) (Or.inl ⟨by rfl, ?_⟩) ?_ ?_
   rotate_left
   ·intro w'
    go_simp
    with_reducible rfl
   rotate_left
   ·simp only [Act.put, la_, lz_, ls_, i64_w, i32_w]
    rfl
   refine pure_ (i := 20) (N := some 60) (v := ?_) (a' := ?_) #[T_, T_, T_, T_, T_, T_, T_, T_, T_, T_, T_, T_, T_, T_, T_, T_, T_, T_, F_, T_, T_, F_, F_, F_, F_, F_, F_, F_, F_] rfl rfl (any_of HT_.out (by kernel_rfl)) (fun _ _ _ h => h) (Or.inl ⟨by rfl, ?_⟩) ?_ ?_
   rotate_left
   ·intro w'
    go_simp
    with_reducible rfl
   rotate_left
   ·simp only [Act.put, la_, lz_, ls_, i64_w, i32_w]
    rfl
   refine pure_ (i := 21) (N := some 61) (v := ?_) (a' := ?_) #[T_, T_, T_, T_, T_, T_, T_, T_, T_, T_, T_, T_, T_, T_, T_, T_, T_, T_, F_, T_, T_, T_, F_, F_, F_, F_, F_, F_, F_] rfl rfl (any_of HT_.out (by kernel_rfl)) (fun _ _ _ h => h) (Or.inl ⟨by rfl, ?_⟩) ?_ ?_
   rotate_left
   ·intro w'
    go_simp
    with_reducible rfl
   rotate_left
   ·simp only [Act.put, la_, lz_, ls_, i64_w, i32_w]
    rfl
   refine pure_ (i := 22) (N := some 62) (v := ?_) (a' := ?_) #[T_, T_, T_, T_, T_, T_, T_, T_, T_, T_, T_, T_, T_, T_, T_, T_, T_, T_, F_, T_, T_, T_, T_, F_, F_, F_, F_, F_, F_] rfl rfl (any_of HT_.out (by kernel_rfl)) (fun _ _ _ h => h) (Or.inl ⟨by rfl, ?_⟩) ?_ ?_
   rotate_left
   ·intro w'
    go_simp
    with_reducible rfl
   rotate_left
   ·simp only [Act.put, la_, lz_, ls_, i64_w, i32_w]
    rfl
   refine pure_ (i := 23) (N := some 63) (v := ?_) (a' := ?_) #[T_, T_, T_, T_, T_, T_, T_, T_, T_, T_, T_, T_, T_, T_, T_, T_, T_, T_, F_, T_, T_, T_, T_, T_, F_, F_, F_, F_, F_] rfl rfl (any_of HT_.out (by kernel_rfl)) (fun _ _ _ h => h) (Or.inl ⟨by rfl, ?_⟩) ?_ ?_
   rotate_left
   ·intro w'
    go_simp
    with_reducible rfl
   rotate_left
   ·simp only [Act.put, la_, lz_, ls_, i64_w, i32_w]
    rfl
   refine pure_ (i := 24) (N := some 64) (v := ?_) (a' := ?_) #[T_, T_, T_, T_, T_, T_, T_, T_, T_, T_, T_, T_, T_, T_, T_, T_, T_, T_, F_, T_, T_, T_, T_, T_, T_, F_, F_, F_, F_] rfl rfl (any_of HT_.out (by kernel_rfl)) (fun _ _ _ h => h) (Or.inl ⟨by rfl, ?_⟩) ?_ ?_
   rotate_left
   ·intro w'
    go_simp
    with_reducible rfl
   rotate_left
   ·simp only [Act.put, la_, lz_, ls_, i64_w, i32_w]
    rfl
   refine pure_ (i := 25) (N := some 65) (v := ?_) (a' := ?_) #[T_, T_, T_, T_, T_, T_, T_, T_, T_, T_, T_, T_, T_, T_, T_, T_, T_, T_, F_, T_, T_, T_, T_, T_, T_, T_, F_, F_, F_] rfl rfl (any_of HT_.out (by kernel_rfl)) (fun _ _ _ h => h) (Or.inl ⟨by rfl, ?_⟩) ?_ ?_
   rotate_left
   ·intro w'
    go_simp
    with_reducible rfl
   rotate_left
   ·simp only [Act.put, la_, lz_, ls_, i64_w, i32_w]
    rfl
   refine one_ (i := 18) (N := some 58) #[T_, T_, T_, T_, T_, T_, T_, T_, T_, T_, T_, T_, T_, T_, T_, T_, T_, T_, T_, T_, T_, T_, T_, T_, T_, T_, F_, F_, F_] rfl rfl (one_of HT_.out (by kernel_rfl)) (by decide) (fun K hK => ?_)
   refine goes_ Try.func50 (by kernel_rfl) rfl #[.slice (some ad217) l2.length c2, .int .i64 ji22, .int .i64 2] (by rfl) rfl rfl (by (try simp only [List.map_toArray, List.map_cons, List.map_nil]); first | done | (simp only [hji22]; rfl) | rfl | (simp only [List.length_drop, List.length_take]; rfl)) ?_
   with_reducible refine (spec_NumberAt.calls kj3 _ _ l2 ji22 2 t229 _ ?side1 ?side2 A21.out).mono ?_
   (case side1 => repeat (first | exact (Kd.C_below HR2.out HB.out) | (with_reducible refine Kd.C_alloc ?_ _) | (with_reducible refine Kd.C_drewN ?_ _) | (with_reducible refine Kd.C_drew ?_)))
   (case side2 => exact HC2.out)
   rintro e w' ⟨rfl, ⟨nd, rfl⟩⟩
   refine ⟨_, rfl, ?_⟩
   refine hK.out _ _ ⟨(blk_cell BK226.out 0).trans rfl, (blk_cell BK226.out 1).trans rfl, (blk_cell BK226.out 2).trans rfl, (blk_cell BK226.out 3).trans rfl, ((HB.out.cell (lc_ w _ hw228_0)).trans hw228_0)⟩ (fun hHeld => ?_)
   clear hK K
   refine norm_ (a' := ?_) ?_ ?_
   rotate_left
   ·show Act.put _ (some 58) _ = _
    simp only [Act.put, la_, lz_, ls_, i64_w, i32_w]
    rfl
   refine one_ (i := 26) (N := some 66) #[T_, T_, T_, T_, T_, T_, T_, T_, T_, T_, T_, T_, T_, T_, T_, T_, T_, T_, T_, T_, T_, T_, T_, T_, T_, T_, T_, F_, F_] rfl rfl (one_of HT_.out (by kernel_rfl)) (by decide) (fun K hK => ?_)
   refine goes_ Try.func37 (by kernel_rfl) rfl #[.int .i64 a0, .int .i64 a1, .slice (some ad217) (l2.take ((ji22) : Int).toNat).length c2] (by rfl) rfl rfl (by (try simp only [List.map_toArray, List.map_cons, List.map_nil]); first | done | (rw [show (l2.take ((ji22) : Int).toNat).length = (ji22).toNat from (by rw [List.length_take]; have h_ : ((ji22) : Int) ≤ (l2.length : Int) := of_decide_eq_true (by first | (with_reducible assumption) | assumption); omega)] <;> rfl) | (simp only [hji22]; rfl) | rfl | (simp only [List.length_drop, List.length_take]; rfl)) ?_
   with_reducible refine (spec_l9Sum.calls kj3 a0 a1 _ _ (l2.take ((ji22) : Int).toNat) t231 _ ?side1 ?side2 A25.out).mono ?_
   (case side1 => repeat (first | exact (Kd.C_below HR230.out (us_ HB.out)) | (with_reducible refine Kd.C_alloc ?_ _) | (with_reducible refine Kd.C_drewN ?_ _) | (with_reducible refine Kd.C_drew ?_)))
   (case side2 => exact HC230.out)
   rintro e w44 ⟨rfl, hb⟩
   refine ⟨_, rfl, ?_⟩
   have n0_ := mk_ (Kd.R_below (Kd.ur_ HO225.out) hb)
   have n1_ := mk_ (blk_below (u_ BK214.out) hb)
   have n2_ := mk_ (blk_below (u_ BK226.out) hb)
   have n3_ := mk_ (below_step (us_ HB.out) hb)
   clear HO225
   clear BK214
   clear BK226
   clear HB
   have HO225 := n0_
   have BK214 := n1_
   have BK226 := n2_
   have HB := n3_
   clear n0_ n1_ n2_ n3_
   (try clear hb)
   (try clear hb2)
   (try clear hk)
   (try clear hi)
   refine hK.out _ _ ⟨(blk_cell BK226.out 0).trans rfl, (blk_cell BK226.out 1).trans rfl, (blk_cell BK226.out 2).trans rfl, (blk_cell BK226.out 3).trans rfl, ((HB.out.cell (lc_ w _ hw228_0)).trans hw228_0)⟩ (fun hHeld => ?_)
   clear hK K
   refine norm_ (a' := ?_) ?_ ?_
   rotate_left
   ·show Act.put _ (some 66) _ = _
    simp only [Act.put, la_, lz_, ls_, i64_w, i32_w]
    rfl
   refine pure_ (i := 27) (N := some 67) (v := ?_) (a' := ?_) #[T_, T_, T_, T_, T_, T_, T_, T_, T_, T_, T_, T_, T_, T_, T_, T_, T_, T_, T_, T_, T_, T_, T_, T_, T_, T_, T_, T_, F_] rfl rfl (any_of HT_.out (by kernel_rfl)) (fun _ _ _ h => h) (Or.inl ⟨by rfl, ?_⟩) ?_ ?_
   rotate_left
   ·intro w'
    go_simp
    with_reducible rfl
   rotate_left
   ·simp only [Act.put, la_, lz_, ls_, i64_w, i32_w]
    rfl
   refine pure_ (i := 28) (N := some 68) (v := ?_) (a' := ?_) #[T_, T_, T_, T_, T_, T_, T_, T_, T_, T_, T_, T_, T_, T_, T_, T_, T_, T_, T_, T_, T_, T_, T_, T_, T_, T_, T_, T_, T_] rfl rfl (any_of HT_.out (by kernel_rfl)) (fun _ _ _ h => h) (Or.inl ⟨by rfl, ?_⟩) ?_ ?_
   rotate_left
   ·intro w'
    go_simp
    with_reducible rfl
   rotate_left
   ·simp only [Act.put, la_, lz_, ls_, i64_w, i32_w]
    rfl
   refine done_ (done_of HT_.out (by kernel_rfl)) ?_
   have hnb45 := NB226_214.out
   have hnc45 := NB214_226.out
   obtain ⟨hcz46_0, hcz46_1, hcz46_2, hcz46_3, hfz46_0, hfz46_1, hfz46_2, hfz46_3⟩ := cells4_ BK226.out
   obtain ⟨hcz47_0, hcz47_1, hcz47_2, hcz47_3, hfz47_0, hfz47_1, hfz47_2, hfz47_3⟩ := cells4_ BK214.out
   try go_wp2
   refine bodyPost_ret (results_ct rfl _ _ gb214 27 #[.int .i64 a0, .int .i64 (wrap64 (rd l2 0)), .int .i64 (wrap64 (rd l2 1)), .slice Ao35 y223.length co35] (0, 0) _ rfl (by (with_reducible repeat (first | refine bn_ ?_ _ | refine bw_ ?_ | refine ba_ ?_ _)); refine blk_put (cs := #[.int .i64 a0, .int .i64 (wrap64 (rd l2 0)), .int .i64 (wrap64 (rd l2 1)), .slice none 0 0]) ?_ 3 _ rfl; (with_reducible repeat (first | refine bn_ ?_ _ | refine bw_ ?_ | refine ba_ ?_ _)); refine blk_put (cs := #[.int .i64 a0, .int .i64 (wrap64 (rd l2 0)), .int .i64 0, .slice none 0 0]) ?_ 2 _ rfl; (with_reducible repeat (first | refine bn_ ?_ _ | refine bw_ ?_ | refine ba_ ?_ _)); refine blk_put (cs := #[.int .i64 a0, .int .i64 0, .int .i64 0, .slice none 0 0]) ?_ 1 _ rfl; (with_reducible repeat (first | refine bn_ ?_ _ | refine bw_ ?_ | refine ba_ ?_ _)); refine blk_put (cs := #[.int .i64 0, .int .i64 0, .int .i64 0, .slice none 0 0]) ?_ 0 _ rfl; (with_reducible repeat (first | refine bn_ ?_ _ | refine bw_ ?_ | refine ba_ ?_ _)); exact BK214.out) Try.underlying27 rfl (by kernel_rfl)) rfl ?_
   exact ⟨_, by first | rfl | (simp [errW_none, errW_some] <;> rfl) | (simp only [← hji22]; first | rfl | (simp [errW_none, errW_some] <;> rfl)) | (simp [*, errW_none, errW_some] <;> rfl), by (with_reducible repeat (first | apply Kd.R_alloc | apply Kd.R_drewN | apply Kd.R_drew)); exact Kd.R_mono (Kd.R_far (p := ⟨gb214, 3, none⟩) (Kd.R_far (p := ⟨gb214, 2, none⟩) (Kd.R_far (p := ⟨gb214, 1, none⟩) (Kd.R_far (p := ⟨gb214, 0, none⟩) (Kd.R_types HO225.out BK214.out (by decide)) (fun _ hk => hk.2) (.int .i64 a0)) (fun _ hk => hk.2) (.int .i64 (wrap64 (rd l2 0)))) (fun _ hk => hk.2) (.int .i64 (wrap64 (rd l2 1)))) (fun _ hk => hk.2) (.slice Ao35 y223.length co35)) (fun _ hk => trivial), us_ HB.out⟩

end Go.Proofs.Ytfcocnhkimbpbaa.MFnMailFrom
