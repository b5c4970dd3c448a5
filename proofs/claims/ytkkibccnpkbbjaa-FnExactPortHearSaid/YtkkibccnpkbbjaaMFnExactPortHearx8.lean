/- Functions that the law FnExactPortHear reaches, each with the proof that the machine's call comes to just its answer; no conditions but those that each theorem states. Printed by a program of this session over the kit's print. -/
import Derived.Test.YtkkibccnpkbbjaaMFnExactPortHearx0
import Derived.Test.YtkkibccnpkbbjaaMFnExactPortHearx4
import Derived.Test.YtkkibccnpkbbjaaMFnExactPortHearx6
import Derived.Test.YtkkibccnpkbbjaaMFnExactPortHearx7
namespace Go.Proofs.Ytkkibccnpkbbjaa.MFnExactPortHear
open Go.RowKit Go.Proofs.YtkkibccnpkbbjaaV.PrintWords Go.Proofs.YtkkibccnpkbbjaaV.PrintLast Go.Proofs.YtkkibccnpkbbjaaV.PrintMore
attribute [local go_sem] max2_int min2_int max_two min_two max_three min_three max_four min_four   -- for this text's walks alone
set_option linter.unusedVariables false
set_option linter.unusedSimpArgs false

/-! ### spec_MailFrom: function 64 -/
def spec_MailFrom.j0 : Nat → Int → Int → List Int → Bool → Option (Int × Int × Int × List Int × Bool)
 | 0, _, _, _, _ => none
 | k + 1, x0, x1, x2, x21 => if x21 = true then (some (0, 0, 0, ([] : List Int), false)) else (if 0 < (x2.length : Int) then (if 1 < (x2.length : Int) then ((some (([] : List Int) : List Int)).bind fun y246 => (if 3 ≤ (wrap64 ((x2.length : Int) - 2)) then (if (wrap64 ((x2.length : Int) - 2)) ≤ (x2.length : Int) then (if y246.length + ((x2.take ((wrap64 ((x2.length : Int) - 2)) : Int).toNat).drop 3).length < 140737488355328 then ((some (y246 ++ ((x2.take ((wrap64 ((x2.length : Int) - 2)) : Int).toNat).drop 3) : List Int)).bind fun y250 => ((spec_MailOk.f x0 (wrap64 (rd x2 0)) (wrap64 (rd x2 1)) y250).bind fun t254 => (if t254 = true then (if 2 < (x2.length : Int) then (if (wrap64 (rd x2 2)) = (y250.length : Int) then ((spec_NumberAt.f k x2 (wrap64 ((x2.length : Int) - 2)) 2).bind fun t256 => (if 0 ≤ (wrap64 ((x2.length : Int) - 2)) then ((spec_l9Sum.f k x0 x1 (x2.take ((wrap64 ((x2.length : Int) - 2)) : Int).toNat)).bind fun t258 => (if t256 = t258 then (some (x0, wrap64 (rd x2 0), wrap64 (rd x2 1), y250, true)) else (some (0, 0, 0, ([] : List Int), false)))) else (none))) else (some (0, 0, 0, ([] : List Int), false))) else (none)) else (some (0, 0, 0, ([] : List Int), false))))) else (none)) else (none)) else (none))) else (none)) else (none))
def spec_MailFrom.f (k : Nat) (a0 : Int) (a1 : Int) (l2 : List Int) : Option (Int × Int × Int × List Int × Bool) := if (l2.length : Int) < 5 then (spec_MailFrom.j0 k a0 a1 l2 true) else ((spec_l1In.f a0 0 65535).bind fun t242 => (if t242 = true then ((spec_l1In.f a1 0 65535).bind fun t243 => (spec_MailFrom.j0 k a0 a1 l2 (!t243))) else (spec_MailFrom.j0 k a0 a1 l2 true)))
theorem spec_MailFrom.mono_l : ∀ k, (∀ y0 y1 y2 y3, LeO (spec_MailFrom.j0 k y0 y1 y2 y3) (spec_MailFrom.j0 (k + 1) y0 y1 y2 y3))
 | 0 => fun _ _ _ _ r h => by simp [spec_MailFrom.j0] at h
 | k + 1 => by
  have ih0 := spec_MailFrom.mono_l k
  ·intro y0 y1 y2 y3
   unfold spec_MailFrom.j0
   repeat' first
   | (with_reducible exact ih0 _ _ _ _)
   | (with_reducible exact spec_NumberAt.mono _ _ _ _)
   | (with_reducible exact spec_l9Sum.mono _ _ _ _)
   | (with_reducible exact LeO.refl _)
   | (with_reducible exact LeO.none _)
   | (with_reducible refine LeO.ite ?_ ?_)
   | (with_reducible refine LeO.bind ?_ (fun _ => ?_))
   | exact ih0 _ _ _ _
   | exact spec_NumberAt.mono _ _ _ _
   | exact spec_l9Sum.mono _ _ _ _
   | exact LeO.none _
   | refine LeO.ite ?_ ?_
   | refine LeO.bind ?_ (fun _ => ?_)
theorem spec_MailFrom.mono : ∀ a0 a1 a2 k, LeO (spec_MailFrom.f k a0 a1 a2) (spec_MailFrom.f (k + 1) a0 a1 a2) := by
 intro a0 a1 a2 k
 have ih0 := spec_MailFrom.mono_l k
 unfold spec_MailFrom.f
 repeat' first
   | (with_reducible exact ih0 _ _ _ _)
   | (with_reducible exact spec_NumberAt.mono _ _ _ _)
   | (with_reducible exact spec_l9Sum.mono _ _ _ _)
   | (with_reducible exact LeO.refl _)
   | (with_reducible exact LeO.none _)
   | (with_reducible refine LeO.ite ?_ ?_)
   | (with_reducible refine LeO.bind ?_ (fun _ => ?_))
   | exact ih0 _ _ _ _
   | exact spec_NumberAt.mono _ _ _ _
   | exact spec_l9Sum.mono _ _ _ _
   | exact LeO.none _
   | refine LeO.ite ?_ ?_
   | refine LeO.bind ?_ (fun _ => ?_)
def spec_MailFrom.T3 : Bool × List (List Nat × List Nat) := (true, [([], []), ([], []), ([1], [1]), ([2], [2]), ([3], [3]), ([], []), ([5], [5]), ([6], [6]), ([7], [7]), ([], []), ([], []), ([], []), ([11], [11]), ([12], [12]), ([10, 13], [10, 13]), ([9, 14], [9, 14]), ([0, 4, 8, 15], [0, 4, 8, 15]), ([], []), ([17, 16, 15, 0, 1, 2, 3, 4, 5, 6, 7, 8, 9, 10, 11, 12, 13, 14, 15, 16, 17], [16, 17])])
def spec_MailFrom.B3 : List Nat := [0, 0, 2, 6, 14, 0, 32, 96, 224, 0, 0, 0, 2048, 6144, 15360, 32256, 65535, 0, 262143]
theorem spec_MailFrom.tab3 : rtab .any (opsOf Try.f64 3) = spec_MailFrom.T3 := by kernel_rfl
theorem spec_MailFrom.bits3 : waitsOk spec_MailFrom.T3.2 spec_MailFrom.B3 = true := by kernel_rfl
def spec_MailFrom.T4 : Bool × List (List Nat × List Nat) := (true, [([], []), ([0], [0]), ([1], [1]), ([2, 1], [2]), ([3], [3]), ([4, 3], [3, 4]), ([5, 3], [3, 5]), ([6, 3], [3, 6]), ([3], [3]), ([8, 3], [3, 8]), ([9, 3], [3, 9]), ([7, 10, 3], [3, 7, 10]), ([3, 11], [3, 11]), ([12, 3], [12]), ([13], [13]), ([13], [13]), ([15, 13], [13, 15]), ([16, 13], [13, 16]), ([14, 17, 13, 13], [13, 14, 17]), ([13], [13]), ([13], [13]), ([13], [13]), ([13], [13]), ([22, 13], [13, 22]), ([23, 13], [13, 23]), ([21, 24, 13], [13, 21, 24]), ([19, 20, 25, 18, 13], [13, 19, 20, 25]), ([18, 26, 13], [13, 18, 26]), ([13, 27], [13, 27])])
def spec_MailFrom.B4 : List Nat := [0, 1, 3, 7, 15, 31, 63, 127, 15, 271, 783, 2047, 4095, 8191, 16383, 16383, 49151, 114687, 262143, 16383, 16383, 16383, 16383, 4210687, 12599295, 31473663, 67108863, 134217727, 268435455]
theorem spec_MailFrom.tab4 : rtab .any (opsOf Try.f64 4) = spec_MailFrom.T4 := by kernel_rfl
theorem spec_MailFrom.bits4 : waitsOk spec_MailFrom.T4.2 spec_MailFrom.B4 = true := by kernel_rfl
set_option maxHeartbeats 8000000 in
set_option maxRecDepth 100000 in
theorem spec_MailFrom.calls (k : Nat) (a0 : Int) (a1 : Int) (A2 : Option Addr) (c2 : Nat) (l2 : List Int) (r1 : Int) (r2 : Int) (r3 : Int) (r4 : List Int) (r5 : Bool) (w : World) (hr2 : Kd.C (Kd.int .u8) w A2 l2.length l2) (hc2 : l2.length ≤ c2) (h : spec_MailFrom.f k a0 a1 l2 = some (r1, r2, r3, r4, r5)) :
  Calls Try.prog 64 #[.int .i64 a0, .int .i64 a1, .slice A2 l2.length c2] w fun e w' => ∃ v3_ : Value, e = .returned (.tuple #[.agg #[.int .i64 r1, .int .i64 r2, .int .i64 r3, v3_], .bool r5]) ∧ Kd.R (Kd.int .u8) 5 w' w.heap.size (fun _ => True) v3_ r4 ∧ Below w.heap.size w w' := by
 have hu40 := Try.underlying40
 have HR2 := mk_ hr2
 have HC2 := mk_ hc2
 clear hr2 hc2
 have HB := mk_ (Below.refl w.heap.size w)
 have H := h
 unfold spec_MailFrom.f at H
 clear h
 have HC4 := mk_ H
 clear H
 go_enter Try.func64, Try.ntmps64
 go_upto_region 1 with (first | ((with_reducible refine gate_dst (N := 6) rfl ?_); refine box_event ?hg (N := 6) ?hd (cs := #[.int .i64 0, .int .i64 0, .int .i64 0, .slice none 0 0]) (t := 40) ?hr ?_; (case hd => rfl); (case hg => rfl); (case hr => first | (go_simp; done) | (go_simp; rfl)); intro gb241 hg w5 hbox hb; have n0_ := mk_ (below_step (ub_ HB.out) hb); have BK241 := mk_ (hbox); have GW241 := mk_ ((by rw [hg]; exact (below_size (ub_ HB.out)) : w.heap.size ≤ gb241)); have GE241 := ge_ ((by rw [hg]; exact (below_size (ub_ HB.out)) : w.heap.size ≤ gb241)); replace HB := n0_; clear n0_; clear hb hbox hg))
 (try simp only [Act.put, la_, lz_, ls_])
 go_cut [21] (fun v21 wc => ∃ (kq : Nat) (x21_3 : Bool), v21 = .bool x21_3 ∧ Aside0 (spec_MailFrom.j0 kq a0 a1 l2 x21_3 = some (r1, r2, r3, r4, r5)) ∧ Aside0 (kq ≤ k) ∧ Aside0 (wc.heap[gb241]? = some (.cells #[.int .i64 0, .int .i64 0, .int .i64 0, (.slice none 0 0)] 40 (0, 0))) ∧ Aside0 (Below w.heap.size w wc))
 case first =>
  have H := HC4.out
  clear HC4
  by_cases c6 : (l2.length : Int) < 5
  ·rw [if_pos c6] at H
   have c6b0 : decide ((l2.length : Int) < 5) = true := decide_eq_true c6
   have c6b1 : decide (l2.length < 5) = true := decide_eq_true (by omega)
   clear c6
   (first | rw [c6b0] | (simp only [i64_w, i32_w]; rw [c6b0]) | skip)
   have H' := mk_ H
   clear H
   go_wp2
   go_meet
   case rel => exact ⟨_, (true), (by first | rfl | (simp; done) | (simp [*]; done)), H', ⟨by first | omega | exact Nat.le_refl _⟩, ⟨u_ BK241.out⟩, ⟨us_ HB.out⟩⟩
  rw [if_neg c6] at H
  have c6b0 : decide ((l2.length : Int) < 5) = false := decide_eq_false c6
  have c6b1 : decide (l2.length < 5) = false := decide_eq_false (by omega)
  clear c6
  (first | rw [c6b0] | (simp only [i64_w, i32_w]; rw [c6b0]) | skip)
  replace H := Option.bind_eq_some_iff.mp H
  obtain ⟨t242, A70, H⟩ := H
  (try dsimp only at H)
  have A7 := mk_ A70
  clear A70
  by_cases c8 : t242 = true
  rotate_left
  ·replace c8 := Bool.eq_false_iff.mpr c8
   subst c8
   rw [if_neg (show ¬ (false = true) by decide)] at H
   have H' := mk_ H
   clear H
   go_wp2_with (first | (go_at_call 40; (with_reducible refine (spec_l1In.calls a0 0 65535 false _ A7.out).mono ?_); rintro e w' ⟨rfl, ⟨nd, rfl⟩⟩))
   go_meet
   case rel => exact ⟨_, (true), (by first | rfl | (simp; done) | (simp [*]; done)), H', ⟨by first | omega | exact Nat.le_refl _⟩, ⟨u_ BK241.out⟩, ⟨us_ HB.out⟩⟩
  subst c8
  rw [if_pos rfl] at H
  replace H := Option.bind_eq_some_iff.mp H
  obtain ⟨t243, A90, H⟩ := H
  replace H : (spec_MailFrom.j0 k a0 a1 l2 (!t243)) = some (r1, r2, r3, r4, r5) := H
  have A9 := mk_ A90
  clear A90
  have H' := mk_ H
  clear H
  go_wp2_with (first | (go_at_call 40; have hA_ := A7.out; (with_reducible refine (spec_l1In.calls a0 0 65535 true _ A7.out).mono ?_); rintro e w' ⟨rfl, ⟨nd, rfl⟩⟩; clear hA_ A7) | (go_at_call 40; have hA_ := A9.out; (with_reducible refine (spec_l1In.calls a1 0 65535 t243 _ A9.out).mono ?_); rintro e w' ⟨rfl, ⟨nd, rfl⟩⟩; clear hA_ A9))
  go_meet
  case rel => exact ⟨_, (!t243), (by first | rfl | (simp; done) | (simp [*]; done)), H', ⟨by first | omega | exact Nat.le_refl _⟩, ⟨u_ BK241.out⟩, ⟨us_ HB.out⟩⟩
 case rest =>
  clear HC4
  try clear c2
  try clear p2
  try clear c6
  try clear c6b0
  try clear c6b1
  try clear c8
  obtain ⟨kq, x21_3, rfl, HA, HJ3, BK241, HB⟩ := hcut
  cases kq with
  | zero => exact absurd HA.out (by simp [spec_MailFrom.j0])
  | succ kj3 =>
   have H := HA.out
   clear HA
   simp only [spec_MailFrom.j0] at H
   by_cases c10 : x21_3 = true
   focus
    subst c10
    rw [if_pos rfl] at H
    simp only [Option.some.injEq, Prod.mk.injEq] at H
    obtain ⟨rfl, rfl, rfl, rfl, rfl⟩ := H
    obtain ⟨_, _, _, _, _, _, _, _⟩ := cells4_ BK241.out
   rotate_left
   focus
    replace c10 := Bool.eq_false_iff.mpr c10
    subst c10
    rw [if_neg (show ¬ (false = true) by decide)] at H
    by_cases c12 : 0 < (l2.length : Int)
    rotate_left
    ·rw [if_neg c12] at H
     exact absurd H (by simp)
    rw [if_pos c12] at H
    have c12b0 : decide (0 < (l2.length : Int)) = true := decide_eq_true c12
    have c12b1 : decide (0 < l2.length) = true := decide_eq_true (by omega)
    clear c12
    by_cases c13 : 1 < (l2.length : Int)
    rotate_left
    ·rw [if_neg c13] at H
     exact absurd H (by simp)
    rw [if_pos c13] at H
    have c13b0 : decide (1 < (l2.length : Int)) = true := decide_eq_true c13
    have c13b1 : decide (1 < l2.length) = true := decide_eq_true (by omega)
    clear c13
    obtain ⟨y246, hy246⟩ : ∃ y_ : List Int, y_ = (([] : List Int)) := ⟨_, rfl⟩
    replace H : (if 3 ≤ (wrap64 ((l2.length : Int) - 2)) then (if (wrap64 ((l2.length : Int) - 2)) ≤ (l2.length : Int) then (if y246.length + ((l2.take ((wrap64 ((l2.length : Int) - 2)) : Int).toNat).drop 3).length < 140737488355328 then ((some (y246 ++ ((l2.take ((wrap64 ((l2.length : Int) - 2)) : Int).toNat).drop 3) : List Int)).bind fun y250 => ((spec_MailOk.f a0 (wrap64 (rd l2 0)) (wrap64 (rd l2 1)) y250).bind fun t254 => (if t254 = true then (if 2 < (l2.length : Int) then (if (wrap64 (rd l2 2)) = (y250.length : Int) then ((spec_NumberAt.f kj3 l2 (wrap64 ((l2.length : Int) - 2)) 2).bind fun t256 => (if 0 ≤ (wrap64 ((l2.length : Int) - 2)) then ((spec_l9Sum.f kj3 a0 a1 (l2.take ((wrap64 ((l2.length : Int) - 2)) : Int).toNat)).bind fun t258 => (if t256 = t258 then (some (a0, wrap64 (rd l2 0), wrap64 (rd l2 1), y250, true)) else (some (0, 0, 0, ([] : List Int), false)))) else (none))) else (some (0, 0, 0, ([] : List Int), false))) else (none)) else (some (0, 0, 0, ([] : List Int), false))))) else (none)) else (none)) else (none)) = some (r1, r2, r3, r4, r5) := by first | (rw [hy246]; with_reducible exact H) | (have H2_ := (Option.bind_some _ _).symm.trans H; rw [hy246]; with_reducible exact H2_) | (have H2_ := (Option.bind_some _ _).symm.trans H; with_reducible exact H2_) | with_reducible exact H | (rw [hy246]; exact H) | exact H
    have Ny246 := mk_ hy246
    clear hy246
    by_cases c14 : 3 ≤ (wrap64 ((l2.length : Int) - 2))
    rotate_left
    ·rw [if_neg c14] at H
     exact absurd H (by simp)
    rw [if_pos c14] at H
    have c14b0 := eq_true c14
    have c14b1 : decide (3 ≤ (wrap64 ((l2.length : Int) - 2))) = true := decide_eq_true c14
    clear c14
    by_cases c15 : (wrap64 ((l2.length : Int) - 2)) ≤ (l2.length : Int)
    rotate_left
    ·rw [if_neg c15] at H
     exact absurd H (by simp)
    rw [if_pos c15] at H
    have c15b0 := eq_true c15
    have c15b1 : decide ((wrap64 ((l2.length : Int) - 2)) ≤ (l2.length : Int)) = true := decide_eq_true c15
    clear c15
    by_cases c16 : y246.length + ((l2.take ((wrap64 ((l2.length : Int) - 2)) : Int).toNat).drop 3).length < 140737488355328
    rotate_left
    ·rw [if_neg c16] at H
     exact absurd H (by simp)
    rw [if_pos c16] at H
    have LMc16 := mk_ c16
    clear c16
    obtain ⟨y250, hy250⟩ : ∃ y_ : List Int, y_ = (y246 ++ ((l2.take ((wrap64 ((l2.length : Int) - 2)) : Int).toNat).drop 3)) := ⟨_, rfl⟩
    replace H : ((spec_MailOk.f a0 (wrap64 (rd l2 0)) (wrap64 (rd l2 1)) y250).bind fun t254 => (if t254 = true then (if 2 < (l2.length : Int) then (if (wrap64 (rd l2 2)) = (y250.length : Int) then ((spec_NumberAt.f kj3 l2 (wrap64 ((l2.length : Int) - 2)) 2).bind fun t256 => (if 0 ≤ (wrap64 ((l2.length : Int) - 2)) then ((spec_l9Sum.f kj3 a0 a1 (l2.take ((wrap64 ((l2.length : Int) - 2)) : Int).toNat)).bind fun t258 => (if t256 = t258 then (some (a0, wrap64 (rd l2 0), wrap64 (rd l2 1), y250, true)) else (some (0, 0, 0, ([] : List Int), false)))) else (none))) else (some (0, 0, 0, ([] : List Int), false))) else (none)) else (some (0, 0, 0, ([] : List Int), false)))) = some (r1, r2, r3, r4, r5) := by first | (rw [hy250]; with_reducible exact H) | (have H2_ := (Option.bind_some _ _).symm.trans H; rw [hy250]; with_reducible exact H2_) | (have H2_ := (Option.bind_some _ _).symm.trans H; with_reducible exact H2_) | with_reducible exact H | (rw [hy250]; exact H) | exact H
    have Ny250 := mk_ hy250
    clear hy250
    replace H := Option.bind_eq_some_iff.mp H
    obtain ⟨t254, A170, H⟩ := H
    (try dsimp only at H)
    have A17 := mk_ A170
    clear A170
    by_cases c18 : t254 = true
    rotate_left
    focus
     replace c18 := Bool.eq_false_iff.mpr c18
     subst c18
     rw [if_neg (show ¬ (false = true) by decide)] at H
     simp only [Option.some.injEq, Prod.mk.injEq] at H
     obtain ⟨rfl, rfl, rfl, rfl, rfl⟩ := H
    rotate_left
    focus
     subst c18
     rw [if_pos rfl] at H
     by_cases c19 : 2 < (l2.length : Int)
     rotate_left
     ·rw [if_neg c19] at H
      exact absurd H (by simp)
     rw [if_pos c19] at H
     have c19b0 : decide (2 < (l2.length : Int)) = true := decide_eq_true c19
     have c19b1 : decide (2 < l2.length) = true := decide_eq_true (by omega)
     clear c19
     by_cases c20 : (wrap64 (rd l2 2)) = (y250.length : Int)
     rotate_left
     focus
      rw [if_neg c20] at H
      have c20b0 : ((wrap64 (rd l2 2)) == (y250.length : Int)) = false := beq_eq_false_iff_ne.mpr c20
      have c20b1 : ((wrap64 (rd l2 2)) != (y250.length : Int)) = true := bne_iff_ne.mpr c20
      simp only [Option.some.injEq, Prod.mk.injEq] at H
      obtain ⟨rfl, rfl, rfl, rfl, rfl⟩ := H
     rotate_left
     focus
      rw [if_pos c20] at H
      have c20b0 : ((wrap64 (rd l2 2)) == (y250.length : Int)) = true := beq_iff_eq.mpr c20
      have c20b1 : ((wrap64 (rd l2 2)) != (y250.length : Int)) = false := bne_eq_false_iff_eq.mpr c20
      clear c20
      replace H := Option.bind_eq_some_iff.mp H
      obtain ⟨t256, A210, H⟩ := H
      (try dsimp only at H)
      have A21 := mk_ A210
      clear A210
      obtain ⟨ji22, hji22⟩ : ∃ j_ : Int, (wrap64 ((l2.length : Int) - 2)) = j_ := ⟨_, rfl⟩
      replace H : (if 0 ≤ (ji22) then ((spec_l9Sum.f kj3 a0 a1 (l2.take ((ji22) : Int).toNat)).bind fun t258 => (if t256 = t258 then (some (a0, wrap64 (rd l2 0), wrap64 (rd l2 1), y250, true)) else (some (0, 0, 0, ([] : List Int), false)))) else (none)) = some (r1, r2, r3, r4, r5) := by first | (rw [hji22] at H; exact H) | (simp only [hji22] at H ⊢; exact H)
      (try rw [hji22] at c14b0)
      (try rw [hji22] at c14b1)
      (try rw [hji22] at c15b0)
      (try rw [hji22] at c15b1)
      (try rw [hji22] at LMc16)
      (try rw [hji22] at Ny250)
      (try rw [hji22] at Ny250)
      (try rw [hji22] at Ny250)
      (try rw [hji22] at A17)
      (try rw [hji22] at Ny250)
      (try rw [hji22] at A21)
      have hji22w : (IntKind.i64.wrap ((l2.length : Int) - 2)) = ji22 := (i64_w _).trans hji22
      by_cases c23 : 0 ≤ (ji22)
      rotate_left
      ·rw [if_neg c23] at H
       exact absurd H (by simp)
      rw [if_pos c23] at H
      have c23b0 := eq_true c23
      have c23b1 : decide (0 ≤ (ji22)) = true := decide_eq_true c23
      clear c23
      have c24b0 := eq_true (of_decide_eq_true (by first | (with_reducible assumption) | assumption) : (ji22) ≤ (l2.length : Int))
      replace H := Option.bind_eq_some_iff.mp H
      obtain ⟨t258, A250, H⟩ := H
      (try dsimp only at H)
      have A25 := mk_ A250
      clear A250
      by_cases c26 : t256 = t258
      rotate_left
      focus
       rw [if_neg c26] at H
       have c26b0 : (t256 == t258) = false := beq_eq_false_iff_ne.mpr c26
       have c26b1 : (t256 != t258) = true := bne_iff_ne.mpr c26
       simp only [Option.some.injEq, Prod.mk.injEq] at H
       obtain ⟨rfl, rfl, rfl, rfl, rfl⟩ := H
      rotate_left
      focus
       rw [if_pos c26] at H
       have c26b0 : (t256 == t258) = true := beq_iff_eq.mpr c26
       have c26b1 : (t256 != t258) = false := bne_eq_false_iff_eq.mpr c26
       clear c26
       simp only [Option.some.injEq, Prod.mk.injEq] at H
       obtain ⟨rfl, rfl, rfl, rfl, rfl⟩ := H
      rotate_left
     rotate_left 2
    rotate_left 3
   rotate_left 4
   all_goals
    try go_wp2
   ·refine bodyPost_ret (results_ct rfl _ _ gb241 40 #[.int .i64 0, .int .i64 0, .int .i64 0, .slice none 0 0] (0, 0) _ rfl (by (with_reducible repeat (first | refine bn_ ?_ _ | refine bw_ ?_ | refine ba_ ?_ _)); refine blk_put (cs := #[.int .i64 0, .int .i64 0, .int .i64 0, .slice none 0 0]) ?_ 3 _ rfl; (with_reducible repeat (first | refine bn_ ?_ _ | refine bw_ ?_ | refine ba_ ?_ _)); refine blk_put (cs := #[.int .i64 0, .int .i64 0, .int .i64 0, .slice none 0 0]) ?_ 2 _ rfl; (with_reducible repeat (first | refine bn_ ?_ _ | refine bw_ ?_ | refine ba_ ?_ _)); refine blk_put (cs := #[.int .i64 0, .int .i64 0, .int .i64 0, .slice none 0 0]) ?_ 1 _ rfl; (with_reducible repeat (first | refine bn_ ?_ _ | refine bw_ ?_ | refine ba_ ?_ _)); refine blk_put (cs := #[.int .i64 0, .int .i64 0, .int .i64 0, .slice none 0 0]) ?_ 0 _ rfl; (with_reducible repeat (first | refine bn_ ?_ _ | refine bw_ ?_ | refine ba_ ?_ _)); exact BK241.out) Try.underlying40 rfl (by kernel_rfl)) rfl ?_
    exact ⟨_, by first | rfl | (simp [errW_none, errW_some] <;> rfl) | (simp [*, errW_none, errW_some] <;> rfl), by first | exact Kd.R_nil _ _ _ _ _ | exact Kd.N_nil _ _ _ _ _ | exact Kd.V_nil _ _ _ _ _ | exact Kd.Q_nil _ _ _ _ _ | exact Kd.S_nil _ _ _ _ _, us_ HB.out⟩
   all_goals
    have n0_ := mk_ (blk_drew BK241.out)
    have n1_ := mk_ (below_drew1 HB.out)
    clear BK241
    clear HB
    have BK241 := n0_
    have HB := n1_
    clear n0_ n1_
    have p3200 : 0 ≤ (0 : Int) := (by omega)
    have q3200 : 0 < (l2.length : Int) := of_decide_eq_true (by first | (with_reducible assumption) | assumption)
    obtain ⟨ad3200, e3200, hx244_0⟩ := Kd.at_int HR2.out 0 p3200 q3200
    have hw244_0 := hx244_0
    (try rw [show ((0 : Int)).toNat = 0 from rfl] at hw244_0)
    (try rw [show 0 * 1 = 0 from rfl] at hw244_0)
    (try rw [Addr.add_zero'] at hw244_0)
    cases e3200
    have qi3200 : (0 < l2.length) = True := eq_true (by omega)
    (try rw [show ((0 : Int)).toNat = 0 from rfl] at hx244_0)
    (try rw [Addr.add_zero'] at hx244_0)
    replace hx244_0 := (HB.out.cell (lc_ w _ hx244_0)).trans hx244_0
    replace p3200 := eq_true p3200
    replace q3200 := eq_true q3200
    have p3760 : 0 ≤ (1 : Int) := (by omega)
    have q3760 : 1 < (l2.length : Int) := of_decide_eq_true (by first | (with_reducible assumption) | assumption)
    obtain ⟨ad3760, e3760, hx245_0⟩ := Kd.at_int HR2.out 1 p3760 q3760
    have hw245_0 := hx245_0
    (try rw [show ((1 : Int)).toNat = 1 from rfl] at hw245_0)
    (try rw [show 1 * 1 = 1 from rfl] at hw245_0)
    (try simp only [Nat.reduceMul, Nat.reduceEqDiff, Go.Addr.add, ↓reduceIte] at hw245_0)
    obtain rfl : ad3200 = ad3760 := (by injection e3760)
    (try simp only [show (1 : Int).toNat = 1 from rfl, Nat.reduceMul, Nat.reduceEqDiff, Go.Addr.add, ↓reduceIte] at hx245_0)
    have qi3760 : (1 < l2.length) = True := eq_true (by omega)
    (try rw [show ((1 : Int)).toNat = 1 from rfl] at hx245_0)
    replace hx245_0 := (HB.out.cell (lc_ w _ hx245_0)).trans hx245_0
    replace p3760 := eq_true p3760
    replace q3760 := eq_true q3760
    obtain ⟨i4320, hi4320, _, hsz4321, _⟩ := info_parts info5
   iterate 2
    focus
     obtain ⟨A4321, hcut4321, hA4321, hC4321⟩ := print_mid_of (P := Try.prog) (Value.int .u8) 0 29 5 .i64 .i64 Try.underlying29 hi4320 hsz4321 (some ad3200) c2 l2 3 (wrap64 ((l2.length : Int) - 2)) (by omega) (by first | omega | exact of_decide_eq_true (by first | (with_reducible assumption) | assumption)) (of_decide_eq_true (by first | (with_reducible assumption) | assumption)) HC2.out
     have HR4400 := mk_ (Kd.C_of_reads (h1 := fun _ => rfl) (hA4321 _ (Kd.reads_of_C HR2.out)))
     have HC4400 := mk_ hC4321
     clear hA4321 hC4321 hi4320 hsz4321
     refine start_ (n := 19) (S := fun w' => w'.cell? ad3200 = some (.int .u8 (rd l2 0)) ∧ w'.cell? ⟨ad3200.block, ad3200.off + 1, none⟩ = some (.int .u8 (rd l2 1))) (ds := []) #[F_, F_, F_, F_, F_, F_, F_, F_, F_, F_, F_, F_, F_, F_, F_, F_, F_, F_, F_] (by kernel_rfl) rfl rfl ⟨((HB.out.cell (lc_ w _ hw244_0)).trans hw244_0), ((HB.out.cell (lc_ w _ hw245_0)).trans hw245_0)⟩ (fun hHeld => ?_); refine with_tabW spec_MailFrom.tab3 spec_MailFrom.bits3 (fun HT_ HW_ => ?_)
     generalize wc.drew = w24120 at BK241 HB HR4400 hx244_0 hx245_0 hHeld ⊢
     refine pure_ (i := 0) (N := some 23) (v := ?_) (a' := ?_) #[T_, F_, F_, F_, F_, F_, F_, F_, F_, F_, F_, F_, F_, F_, F_, F_, F_, F_, F_] rfl rfl (any_of HT_.out (by kernel_rfl)) (fun _ _ _ h => h) (Or.inl ⟨by rfl, ?_⟩) ?_ ?_
     rotate_left
     ·intro w'
      go_simp
      with_reducible rfl
     rotate_left
     ·simp only [Act.put, la_, lz_, ls_, i64_w, i32_w]
      rfl
     refine pure_ (i := 1) (N := some 24) (v := ?_) (a' := ?_) #[T_, T_, F_, F_, F_, F_, F_, F_, F_, F_, F_, F_, F_, F_, F_, F_, F_, F_, F_] rfl rfl (any_of HT_.out (by kernel_rfl)) (fun _ _ _ h => h) (Or.inl ⟨by rfl, ?_⟩) ?_ ?_
     rotate_left
     ·intro w'
      go_simp
      with_reducible rfl
     rotate_left
     ·simp only [Act.put, la_, lz_, ls_, i64_w, i32_w]
      rfl
     refine pure_ (i := 2) (N := some 25) (v := ?_) (a' := ?_) #[T_, T_, T_, F_, F_, F_, F_, F_, F_, F_, F_, F_, F_, F_, F_, F_, F_, F_, F_] rfl rfl (any_of HT_.out (by kernel_rfl)) (fun _ _ _ h => h) (Or.inl ⟨by rfl, ?_⟩) ?_ ?_
     rotate_left
     ·intro w'
      go_simp
      with_reducible rfl
     rotate_left
     ·simp only [Act.put, la_, lz_, ls_, i64_w, i32_w]
      rfl
     refine pure_ (i := 5) (N := some 28) (v := ?_) (a' := ?_) #[T_, T_, T_, F_, F_, T_, F_, F_, F_, F_, F_, F_, F_, F_, F_, F_, F_, F_, F_] rfl rfl (any_of HT_.out (by kernel_rfl)) (fun _ _ _ h => h) (Or.inl ⟨by rfl, ?_⟩) ?_ ?_
     rotate_left
     ·intro w'
      go_simp
      with_reducible rfl
     rotate_left
     ·simp only [Act.put, la_, lz_, ls_, i64_w, i32_w]
      rfl
     refine pure_ (i := 6) (N := some 29) (v := ?_) (a' := ?_) #[T_, T_, T_, F_, F_, T_, T_, F_, F_, F_, F_, F_, F_, F_, F_, F_, F_, F_, F_] rfl rfl (any_of HT_.out (by kernel_rfl)) (fun _ _ _ h => h) (Or.inl ⟨by rfl, ?_⟩) ?_ ?_
     rotate_left
     ·intro w'
      go_simp
      with_reducible rfl
     rotate_left
     ·simp only [Act.put, la_, lz_, ls_, i64_w, i32_w]
      rfl
     refine pure_ (i := 10) (N := some 33) (v := ?_) (a' := ?_) #[T_, T_, T_, F_, F_, T_, T_, F_, F_, F_, T_, F_, F_, F_, F_, F_, F_, F_, F_] rfl rfl (any_of HT_.out (by kernel_rfl)) (fun _ _ _ h => h) (Or.inl ⟨by rfl, ?_⟩) ?_ ?_
     rotate_left
     ·intro w'
      go_simp
      with_reducible rfl
     rotate_left
     ·simp only [Act.put, la_, lz_, ls_, i64_w, i32_w]
      rfl
     refine pure_ (i := 11) (N := some 34) (v := ?_) (a' := ?_) #[T_, T_, T_, F_, F_, T_, T_, F_, F_, F_, T_, T_, F_, F_, F_, F_, F_, F_, F_] rfl rfl (any_of HT_.out (by kernel_rfl)) (fun _ _ _ h => h) (Or.inl ⟨by rfl, ?_⟩) ?_ ?_
     rotate_left
     ·intro w'
      go_simp
      with_reducible rfl
     rotate_left
     ·simp only [Act.put, la_, lz_, ls_, i64_w, i32_w]
      rfl
     refine pure_ (i := 12) (N := some 35) (v := ?_) (a' := ?_) #[T_, T_, T_, F_, F_, T_, T_, F_, F_, F_, T_, T_, T_, F_, F_, F_, F_, F_, F_] rfl rfl (any_of HT_.out (by kernel_rfl)) (fun _ _ _ h => h) (Or.inl ⟨by rfl, ?_⟩) ?_ ?_
     rotate_left
     ·intro w'
      go_simp
      with_reducible rfl
     rotate_left
     ·simp only [Act.put, la_, lz_, ls_, i64_w, i32_w]
      rfl
     refine pure_ (i := 13) (N := some 36) (v := ?_) (a' := ?_) #[T_, T_, T_, F_, F_, T_, T_, F_, F_, F_, T_, T_, T_, T_, F_, F_, F_, F_, F_] rfl rfl (any_of HT_.out (by kernel_rfl)) (fun _ _ _ h => h) (Or.inl ⟨by rfl, ?_⟩) ?_ ?_
     rotate_left
     ·intro w'
      go_simp
      with_reducible rfl
     rotate_left
     ·simp only [Act.put, la_, lz_, ls_, i64_w, i32_w]
      rfl
     refine pure_ (i := 14) (N := some 37) (v := ?_) (a' := ?_) #[T_, T_, T_, F_, F_, T_, T_, F_, F_, F_, T_, T_, T_, T_, T_, F_, F_, F_, F_] rfl rfl (any_of HT_.out (by kernel_rfl)) (fun _ _ _ h => h) (Or.inl ⟨by rfl, ?_⟩) ?_ ?_
     rotate_left
     ·intro w'
      go_simp
      with_reducible rfl
     rotate_left
     ·simp only [Act.put, la_, lz_, ls_, i64_w, i32_w]
      rfl
     refine take_ (i := 3) (N := some 26) (v := ?_) (a' := ?_) #[T_, T_, T_, T_, F_, T_, T_, F_, F_, F_, T_, T_, T_, T_, T_, F_, F_, F_, F_] rfl rfl (take_ofW HT_.out HW_.out (by kernel_rfl)) (fun _ _ _ h => h) (Or.inl ⟨by rfl, ?_⟩) hHeld ?_ ?_
     rotate_left
     ·rintro w' ⟨s6680, s6681⟩
      go_simp
      with_reducible rfl
     rotate_left
     ·simp only [Act.put, la_, lz_, ls_, i64_w, i32_w]
      rfl
     refine pure_ (i := 4) (N := some 27) (v := ?_) (a' := ?_) #[T_, T_, T_, T_, T_, T_, T_, F_, F_, F_, T_, T_, T_, T_, T_, F_, F_, F_, F_] rfl rfl (any_of HT_.out (by kernel_rfl)) (fun _ _ _ h => h) (Or.inl ⟨by rfl, ?_⟩) ?_ ?_
     rotate_left
     ·intro w'
      go_simp
      with_reducible rfl
     rotate_left
     ·simp only [Act.put, la_, lz_, ls_, i64_w, i32_w]
      rfl
     refine take_ (i := 7) (N := some 30) (v := ?_) (a' := ?_) #[T_, T_, T_, T_, T_, T_, T_, T_, F_, F_, T_, T_, T_, T_, T_, F_, F_, F_, F_] rfl rfl (take_ofW HT_.out HW_.out (by kernel_rfl)) (fun _ _ _ h => h) (Or.inl ⟨by rfl, ?_⟩) hHeld ?_ ?_
     rotate_left
     ·rintro w' ⟨s6680, s6681⟩
      go_simp
      with_reducible rfl
     rotate_left
     ·simp only [Act.put, la_, lz_, ls_, i64_w, i32_w]
      rfl
     refine pure_ (i := 8) (N := some 31) (v := ?_) (a' := ?_) #[T_, T_, T_, T_, T_, T_, T_, T_, T_, F_, T_, T_, T_, T_, T_, F_, F_, F_, F_] rfl rfl (any_of HT_.out (by kernel_rfl)) (fun _ _ _ h => h) (Or.inl ⟨by rfl, ?_⟩) ?_ ?_
     rotate_left
     ·intro w'
      go_simp
      with_reducible rfl
     rotate_left
     ·simp only [Act.put, la_, lz_, ls_, i64_w, i32_w]
      rfl
     refine join_ (σ := Value × Value × Nat) 1 #[T_, T_, T_, T_, T_, T_, T_, T_, T_, T_, T_, T_, T_, T_, T_, T_, T_, T_, F_] (fun s_ => [(32, s_.1), (38, s_.2.1), (8, .pointer (some ⟨s_.2.2, 0, none⟩)), (39, .agg #[.int .i64 a0, .int .i64 (wrap64 (rd l2 0)), .int .i64 (wrap64 (rd l2 1)), s_.2.1])]) (fun s_ w' => (w'.cell? ad3200 = some (.int .u8 (rd l2 0)) ∧ w'.cell? ⟨ad3200.block, ad3200.off + 1, none⟩ = some (.int .u8 (rd l2 1))) ∧ (Kd.R (Kd.int .u8) 5 w' w.heap.size (fun _ => True) s_.2.1 y250) ∧ (w'.heap[gb241]? = some (.cells #[.int .i64 0, .int .i64 0, .int .i64 0, .slice none 0 0] 40 (0, 0))) ∧ (w'.heap[s_.2.2]? = some (.cells #[.int .i64 0, .int .i64 0, .int .i64 0, .slice none 0 0] 40 (0, 0))) ∧ (w.heap.size ≤ s_.2.2) ∧ (w.heap.size ≤ s_.2.2) ∧ (gb241 ≠ s_.2.2) ∧ (s_.2.2 ≠ gb241) ∧ (Below w.heap.size w w')) ?_ ?_
     rotate_left
     ·intro hCont
      refine two_ (i := 9) (j := 17) (Ni := some 32) (Nj := some 8) #[T_, T_, T_, T_, T_, T_, T_, T_, T_, T_, T_, T_, T_, T_, T_, F_, F_, F_, F_] #[T_, T_, T_, T_, T_, T_, T_, T_, T_, F_, T_, T_, T_, T_, T_, F_, F_, T_, F_] rfl rfl rfl rfl (two_of HT_.out (by kernel_rfl)) (by decide) (by decide) (fun K hK => ?_) (fun K hK => ?_)
      ·skip
       refine Kd.R_lit_step (Kd.int .u8) _ 5 ?hg (N := 32) ?hd (xs := ([] : List Int)) (inner := []) (ok := fun _ => True) (okp := fun _ => True) ?hr ?hp (fun _ hk => hk) trivial (Below.refl _ _) (Nat.le_refl _) (by simp) ?_; (case hd => rfl); (case hg => rfl); (case hr => first | (go_simp; done) | (go_simp; rfl)); (case hp => exact (Reps.none _ _))
       intro v24200 w24201 ho24202 hb hg_ hnew_
       clear hg_ hnew_
       (first | rw [← Ny246.out] at ho24202 | (simp only [Int.reduceToNat] at ho24202; rw [← Ny246.out] at ho24202))
       have n0_ := mk_ (Kd.R_lower ho24202 (below_size (us_ HB.out)))
       have n1_ := mk_ (blk_below (u_ BK241.out) hb)
       have n2_ := mk_ (below_step (us_ HB.out) hb)
       clear BK241
       clear HB
       have HO248 := n0_
       have BK241 := n1_
       have HB := n2_
       clear n0_ n1_ n2_
       clear hb ho24202
       refine hK.out _ _ ⟨((HB.out.cell (lc_ w _ hw244_0)).trans hw244_0), ((HB.out.cell (lc_ w _ hw245_0)).trans hw245_0)⟩ (fun hHeld => ?_)
       clear hK K
       refine norm_ (a' := ?_) ?_ ?_
       rotate_left
       ·show Act.put _ (some 32) _ = _
        simp only [Act.put, la_, lz_, ls_, i64_w, i32_w]
        rfl
       refine two_ (i := 15) (j := 17) (Ni := some 38) (Nj := some 8) #[T_, T_, T_, T_, T_, T_, T_, T_, T_, T_, T_, T_, T_, T_, T_, T_, F_, F_, F_] #[T_, T_, T_, T_, T_, T_, T_, T_, T_, T_, T_, T_, T_, T_, T_, F_, F_, T_, F_] rfl rfl rfl rfl (two_of HT_.out (by kernel_rfl)) (by decide) (by decide) (fun K hK => ?_) (fun K hK => ?_)
       ·skip
        refine Kd.R_append_rows_step (Kd.int .u8) (w0 := w) w.heap.size (by rfl) (.tmp 32) (.tmp 37) 29 5 (.int .u8 0) 1 rfl Try.underlying29 info5 rfl (by decide) (by omega) v24200 y246 ((l2.take ((wrap64 ((l2.length : Int) - 2)) : Int).toNat).drop 3) _ _ _ (fun _ => True) (fun _ => False) rfl rfl ?aO ?aR (fun _ _ h => h) (fun _ h => h.elim) ?aF ?aB ?aS ?aL ?_
        (case aR => first | (have e_ := (Kd.C_below HR4400.out HB.out); rw [show ((l2.take ((wrap64 ((l2.length : Int) - 2)) : Int).toNat).drop 3).length = ((wrap64 ((l2.length : Int) - 2)).toNat - 3) from (by rw [List.length_drop, List.length_take]; have h_ : ((wrap64 ((l2.length : Int) - 2)) : Int) ≤ (l2.length : Int) := of_decide_eq_true (by first | (with_reducible assumption) | assumption); omega)] at e_; exact e_) | (rw [← show ((l2.take ((wrap64 ((l2.length : Int) - 2)) : Int).toNat).drop 3).length = ((wrap64 ((l2.length : Int) - 2)).toNat - 3) from (by rw [List.length_drop, List.length_take]; have h_ : ((wrap64 ((l2.length : Int) - 2)) : Int) ≤ (l2.length : Int) := of_decide_eq_true (by first | (with_reducible assumption) | assumption); omega)]; repeat (first | exact (Kd.C_below HR4400.out HB.out) | (with_reducible refine Kd.C_alloc ?_ _) | (with_reducible refine Kd.C_drewN ?_ _) | (with_reducible refine Kd.C_drew ?_))) | (repeat (first | exact (Kd.C_below HR4400.out HB.out) | (with_reducible refine Kd.C_alloc ?_ _) | (with_reducible refine Kd.C_drewN ?_ _) | (with_reducible refine Kd.C_drew ?_))))
        (case aB => exact (us_ HB.out))
        (case aF => exact (fun _ _ => trivial))
        (case aO => exact (Kd.ur_ HO248.out))
        (case aS => exact (below_size (us_ HB.out)))
        (case aL => have := LMc16.out; have hlx_ := (show ((l2.take ((wrap64 ((l2.length : Int) - 2)) : Int).toNat).drop 3).length = ((wrap64 ((l2.length : Int) - 2)).toNat - 3) from (by rw [List.length_drop, List.length_take]; have h_ : ((wrap64 ((l2.length : Int) - 2)) : Int) ≤ (l2.length : Int) := of_decide_eq_true (by first | (with_reducible assumption) | assumption); omega)); omega)
        intro v24203 w24204 ho hb hg hat
        rw [← Ny250.out] at ho
        have n0_ := mk_ (blk_grown (g := gb241) (o := .cells #[.int .i64 0, .int .i64 0, .int .i64 0, .slice none 0 0] 40 (0, 0)) (u_ BK241.out) hg (Kd.R_ne HO248.out BK241.out (by decide)))
        have n1_ := mk_ (hb)
        have n2_ := mk_ (ho)
        clear BK241
        clear HB
        clear HO248
        have BK241 := n0_
        have HB := n1_
        have HO252 := n2_
        clear n0_ n1_ n2_
        clear ho hb hg hat
        obtain ⟨Ao5800252, co5800252, eo5800252⟩ := Kd.R_slice HO252.out
        (first | subst eo5800252 | (injection eo5800252 with f1_ f2_ f3_; have f4_ := f1_.symm; have f5_ := f3_.symm; clear f1_ f2_ f3_; subst f4_; subst f5_))
        refine hK.out _ _ ⟨((HB.out.cell (lc_ w _ hw244_0)).trans hw244_0), ((HB.out.cell (lc_ w _ hw245_0)).trans hw245_0)⟩ (fun hHeld => ?_)
        clear hK K
        refine norm_ (a' := ?_) ?_ ?_
        rotate_left
        ·show Act.put _ (some 38) _ = _
         simp only [Act.put, la_, lz_, ls_, i64_w, i32_w]
         rfl
        refine pure_ (i := 16) (N := some 39) (v := ?_) (a' := ?_) #[T_, T_, T_, T_, T_, T_, T_, T_, T_, T_, T_, T_, T_, T_, T_, T_, T_, F_, F_] rfl rfl (any_of HT_.out (by kernel_rfl)) (fun _ _ _ h => h) (Or.inl ⟨by rfl, ?_⟩) ?_ ?_
        rotate_left
        ·intro w'
         go_simp
         with_reducible rfl
        rotate_left
        ·simp only [Act.put, la_, lz_, ls_, i64_w, i32_w]
         rfl
        refine one_ (i := 17) (N := some 8) #[T_, T_, T_, T_, T_, T_, T_, T_, T_, T_, T_, T_, T_, T_, T_, T_, T_, T_, F_] rfl rfl (one_of HT_.out (by kernel_rfl)) (by decide) (fun K hK => ?_)
        refine box_step ?hg (N := 8) ?hd (cs := #[.int .i64 0, .int .i64 0, .int .i64 0, .slice none 0 0]) (t := 40) ?hr ?_; (case hd => rfl); (case hg => rfl); (case hr => first | (go_simp; done) | (go_simp; rfl))
        intro gb24205 hg w5800252 hbox hb
        have n0_ := mk_ (Kd.R_below (Kd.ur_ HO252.out) hb)
        have n1_ := mk_ (blk_below (u_ BK241.out) hb)
        have n2_ := mk_ (below_step (us_ HB.out) hb)
        have n3_ := mk_ (hbox)
        have n4_ := mk_ ((by rw [hg]; exact (below_size (us_ HB.out)) : w.heap.size ≤ gb24205))
        have n5_ := mk_ ((by rw [hg]; exact (below_size (us_ HB.out)) : w.heap.size ≤ gb24205))
        have n6_ := mk_ ((by rw [hg]; exact Nat.ne_of_lt (blk_lt (u_ BK241.out)) : gb241 ≠ gb24205))
        have n7_ := mk_ ((by rw [hg]; exact Nat.ne_of_gt (blk_lt (u_ BK241.out)) : gb24205 ≠ gb241))
        clear HO252
        clear BK241
        clear HB
        have HO252 := n0_
        have BK241 := n1_
        have HB := n2_
        have BK253 := n3_
        have GW253 := n4_
        have GE253 := ge_ n5_.out
        have NB241_253 := nq_ n6_.out
        have NB253_241 := nq_ n7_.out
        clear n0_ n1_ n2_ n3_ n4_ n5_ n6_ n7_
        clear hb hbox hg
        refine hK.out _ _ ⟨((HB.out.cell (lc_ w _ hw244_0)).trans hw244_0), ((HB.out.cell (lc_ w _ hw245_0)).trans hw245_0)⟩ (fun hHeld => ?_)
        clear hK K
        refine norm_ (a' := ?_) ?_ ?_
        rotate_left
        ·show Act.put _ (some 8) _ = _
         simp only [Act.put, la_, lz_, ls_, i64_w, i32_w]
         rfl
        exact norm_ (by simp only [putAll, Act.put, la_, lz_, ls_]) (hCont (v24200, .slice Ao5800252 y250.length co5800252, gb24205) _ ⟨hHeld, (Kd.ur_ HO252.out), (u_ BK241.out), (u_ BK253.out), GW253.out, GE253.out, NB241_253.out, NB253_241.out, (us_ HB.out)⟩)
       skip
       refine box_step ?hg (N := 8) ?hd (cs := #[.int .i64 0, .int .i64 0, .int .i64 0, .slice none 0 0]) (t := 40) ?hr ?_; (case hd => rfl); (case hg => rfl); (case hr => first | (go_simp; done) | (go_simp; rfl))
       intro gb24205 hg w24204 hbox hb
       have n0_ := mk_ (Kd.R_below (Kd.ur_ HO248.out) hb)
       have n1_ := mk_ (blk_below (u_ BK241.out) hb)
       have n2_ := mk_ (below_step (us_ HB.out) hb)
       have n3_ := mk_ (hbox)
       have n4_ := mk_ ((by rw [hg]; exact (below_size (us_ HB.out)) : w.heap.size ≤ gb24205))
       have n5_ := mk_ ((by rw [hg]; exact (below_size (us_ HB.out)) : w.heap.size ≤ gb24205))
       have n6_ := mk_ ((by rw [hg]; exact Nat.ne_of_lt (blk_lt (u_ BK241.out)) : gb241 ≠ gb24205))
       have n7_ := mk_ ((by rw [hg]; exact Nat.ne_of_gt (blk_lt (u_ BK241.out)) : gb24205 ≠ gb241))
       clear HO248
       clear BK241
       clear HB
       have HO248 := n0_
       have BK241 := n1_
       have HB := n2_
       have BK253 := n3_
       have GW253 := n4_
       have GE253 := ge_ n5_.out
       have NB241_253 := nq_ n6_.out
       have NB253_241 := nq_ n7_.out
       clear n0_ n1_ n2_ n3_ n4_ n5_ n6_ n7_
       clear hb hbox hg
       refine hK.out _ _ ⟨((HB.out.cell (lc_ w _ hw244_0)).trans hw244_0), ((HB.out.cell (lc_ w _ hw245_0)).trans hw245_0)⟩ (fun hHeld => ?_)
       clear hK K
       refine norm_ (a' := ?_) ?_ ?_
       rotate_left
       ·show Act.put _ (some 8) _ = _
        simp only [Act.put, la_, lz_, ls_, i64_w, i32_w]
        rfl
       refine one_ (i := 15) (N := some 38) #[T_, T_, T_, T_, T_, T_, T_, T_, T_, T_, T_, T_, T_, T_, T_, T_, F_, T_, F_] rfl rfl (one_of HT_.out (by kernel_rfl)) (by decide) (fun K hK => ?_)
       refine Kd.R_append_rows_step (Kd.int .u8) (w0 := w) w.heap.size (by rfl) (.tmp 32) (.tmp 37) 29 5 (.int .u8 0) 1 rfl Try.underlying29 info5 rfl (by decide) (by omega) v24200 y246 ((l2.take ((wrap64 ((l2.length : Int) - 2)) : Int).toNat).drop 3) _ _ _ (fun _ => True) (fun _ => False) rfl rfl ?aO ?aR (fun _ _ h => h) (fun _ h => h.elim) ?aF ?aB ?aS ?aL ?_
       (case aR => first | (have e_ := (Kd.C_below HR4400.out HB.out); rw [show ((l2.take ((wrap64 ((l2.length : Int) - 2)) : Int).toNat).drop 3).length = ((wrap64 ((l2.length : Int) - 2)).toNat - 3) from (by rw [List.length_drop, List.length_take]; have h_ : ((wrap64 ((l2.length : Int) - 2)) : Int) ≤ (l2.length : Int) := of_decide_eq_true (by first | (with_reducible assumption) | assumption); omega)] at e_; exact e_) | (rw [← show ((l2.take ((wrap64 ((l2.length : Int) - 2)) : Int).toNat).drop 3).length = ((wrap64 ((l2.length : Int) - 2)).toNat - 3) from (by rw [List.length_drop, List.length_take]; have h_ : ((wrap64 ((l2.length : Int) - 2)) : Int) ≤ (l2.length : Int) := of_decide_eq_true (by first | (with_reducible assumption) | assumption); omega)]; repeat (first | exact (Kd.C_below HR4400.out HB.out) | (with_reducible refine Kd.C_alloc ?_ _) | (with_reducible refine Kd.C_drewN ?_ _) | (with_reducible refine Kd.C_drew ?_))) | (repeat (first | exact (Kd.C_below HR4400.out HB.out) | (with_reducible refine Kd.C_alloc ?_ _) | (with_reducible refine Kd.C_drewN ?_ _) | (with_reducible refine Kd.C_drew ?_))))
       (case aB => exact (us_ HB.out))
       (case aF => exact (fun _ _ => trivial))
       (case aO => exact (Kd.ur_ HO248.out))
       (case aS => exact (below_size (us_ HB.out)))
       (case aL => have := LMc16.out; have hlx_ := (show ((l2.take ((wrap64 ((l2.length : Int) - 2)) : Int).toNat).drop 3).length = ((wrap64 ((l2.length : Int) - 2)).toNat - 3) from (by rw [List.length_drop, List.length_take]; have h_ : ((wrap64 ((l2.length : Int) - 2)) : Int) ≤ (l2.length : Int) := of_decide_eq_true (by first | (with_reducible assumption) | assumption); omega)); omega)
       intro v24203 w5800252 ho hb hg hat
       rw [← Ny250.out] at ho
       have n0_ := mk_ (blk_grown (g := gb241) (o := .cells #[.int .i64 0, .int .i64 0, .int .i64 0, .slice none 0 0] 40 (0, 0)) (u_ BK241.out) hg (Kd.R_ne HO248.out BK241.out (by decide)))
       have n1_ := mk_ (blk_grown (g := gb24205) (o := .cells #[.int .i64 0, .int .i64 0, .int .i64 0, .slice none 0 0] 40 (0, 0)) (u_ BK253.out) hg (Kd.R_ne HO248.out BK253.out (by decide)))
       have n2_ := mk_ (hb)
       have n3_ := mk_ (ho)
       clear BK241
       clear BK253
       clear HB
       clear HO248
       have BK241 := n0_
       have BK253 := n1_
       have HB := n2_
       have HO252 := n3_
       clear n0_ n1_ n2_ n3_
       clear ho hb hg hat
       obtain ⟨Ao5800252, co5800252, eo5800252⟩ := Kd.R_slice HO252.out
       (first | subst eo5800252 | (injection eo5800252 with f1_ f2_ f3_; have f4_ := f1_.symm; have f5_ := f3_.symm; clear f1_ f2_ f3_; subst f4_; subst f5_))
       refine hK.out _ _ ⟨((HB.out.cell (lc_ w _ hw244_0)).trans hw244_0), ((HB.out.cell (lc_ w _ hw245_0)).trans hw245_0)⟩ (fun hHeld => ?_)
       clear hK K
       refine norm_ (a' := ?_) ?_ ?_
       rotate_left
       ·show Act.put _ (some 38) _ = _
        simp only [Act.put, la_, lz_, ls_, i64_w, i32_w]
        rfl
       refine pure_ (i := 16) (N := some 39) (v := ?_) (a' := ?_) #[T_, T_, T_, T_, T_, T_, T_, T_, T_, T_, T_, T_, T_, T_, T_, T_, T_, T_, F_] rfl rfl (any_of HT_.out (by kernel_rfl)) (fun _ _ _ h => h) (Or.inl ⟨by rfl, ?_⟩) ?_ ?_
       rotate_left
       ·intro w'
        go_simp
        with_reducible rfl
       rotate_left
       ·simp only [Act.put, la_, lz_, ls_, i64_w, i32_w]
        rfl
       exact norm_ (by simp only [putAll, Act.put, la_, lz_, ls_]) (hCont (v24200, .slice Ao5800252 y250.length co5800252, gb24205) _ ⟨hHeld, (Kd.ur_ HO252.out), (u_ BK241.out), (u_ BK253.out), GW253.out, GE253.out, NB241_253.out, NB253_241.out, (us_ HB.out)⟩)
      skip
      refine box_step ?hg (N := 8) ?hd (cs := #[.int .i64 0, .int .i64 0, .int .i64 0, .slice none 0 0]) (t := 40) ?hr ?_; (case hd => rfl); (case hg => rfl); (case hr => first | (go_simp; done) | (go_simp; rfl))
      intro gb24205 hg w24201 hbox hb
      have n0_ := mk_ (blk_below (u_ BK241.out) hb)
      have n1_ := mk_ (below_step (us_ HB.out) hb)
      have n2_ := mk_ (hbox)
      have n3_ := mk_ ((by rw [hg]; exact (below_size (us_ HB.out)) : w.heap.size ≤ gb24205))
      have n4_ := mk_ ((by rw [hg]; exact (below_size (us_ HB.out)) : w.heap.size ≤ gb24205))
      have n5_ := mk_ ((by rw [hg]; exact Nat.ne_of_lt (blk_lt (u_ BK241.out)) : gb241 ≠ gb24205))
      have n6_ := mk_ ((by rw [hg]; exact Nat.ne_of_gt (blk_lt (u_ BK241.out)) : gb24205 ≠ gb241))
      clear BK241
      clear HB
      have BK241 := n0_
      have HB := n1_
      have BK253 := n2_
      have GW253 := n3_
      have GE253 := ge_ n4_.out
      have NB241_253 := nq_ n5_.out
      have NB253_241 := nq_ n6_.out
      clear n0_ n1_ n2_ n3_ n4_ n5_ n6_
      clear hb hbox hg
      refine hK.out _ _ ⟨((HB.out.cell (lc_ w _ hw244_0)).trans hw244_0), ((HB.out.cell (lc_ w _ hw245_0)).trans hw245_0)⟩ (fun hHeld => ?_)
      clear hK K
      refine norm_ (a' := ?_) ?_ ?_
      rotate_left
      ·show Act.put _ (some 8) _ = _
       simp only [Act.put, la_, lz_, ls_, i64_w, i32_w]
       rfl
      refine one_ (i := 9) (N := some 32) #[T_, T_, T_, T_, T_, T_, T_, T_, T_, T_, T_, T_, T_, T_, T_, F_, F_, T_, F_] rfl rfl (one_of HT_.out (by kernel_rfl)) (by decide) (fun K hK => ?_)
      refine Kd.R_lit_step (Kd.int .u8) _ 5 ?hg (N := 32) ?hd (xs := ([] : List Int)) (inner := []) (ok := fun _ => True) (okp := fun _ => True) ?hr ?hp (fun _ hk => hk) trivial (Below.refl _ _) (Nat.le_refl _) (by simp) ?_; (case hd => rfl); (case hg => rfl); (case hr => first | (go_simp; done) | (go_simp; rfl)); (case hp => exact (Reps.none _ _))
      intro v24200 w24202 ho24204 hb hg_ hnew_
      clear hg_ hnew_
      (first | rw [← Ny246.out] at ho24204 | (simp only [Int.reduceToNat] at ho24204; rw [← Ny246.out] at ho24204))
      have n0_ := mk_ (Kd.R_lower ho24204 (below_size (us_ HB.out)))
      have n1_ := mk_ (blk_below (u_ BK241.out) hb)
      have n2_ := mk_ (blk_below (u_ BK253.out) hb)
      have n3_ := mk_ (below_step (us_ HB.out) hb)
      clear BK241
      clear BK253
      clear HB
      have HO248 := n0_
      have BK241 := n1_
      have BK253 := n2_
      have HB := n3_
      clear n0_ n1_ n2_ n3_
      clear hb ho24204
      refine hK.out _ _ ⟨((HB.out.cell (lc_ w _ hw244_0)).trans hw244_0), ((HB.out.cell (lc_ w _ hw245_0)).trans hw245_0)⟩ (fun hHeld => ?_)
      clear hK K
      refine norm_ (a' := ?_) ?_ ?_
      rotate_left
      ·show Act.put _ (some 32) _ = _
       simp only [Act.put, la_, lz_, ls_, i64_w, i32_w]
       rfl
      refine one_ (i := 15) (N := some 38) #[T_, T_, T_, T_, T_, T_, T_, T_, T_, T_, T_, T_, T_, T_, T_, T_, F_, T_, F_] rfl rfl (one_of HT_.out (by kernel_rfl)) (by decide) (fun K hK => ?_)
      refine Kd.R_append_rows_step (Kd.int .u8) (w0 := w) w.heap.size (by rfl) (.tmp 32) (.tmp 37) 29 5 (.int .u8 0) 1 rfl Try.underlying29 info5 rfl (by decide) (by omega) v24200 y246 ((l2.take ((wrap64 ((l2.length : Int) - 2)) : Int).toNat).drop 3) _ _ _ (fun _ => True) (fun _ => False) rfl rfl ?aO ?aR (fun _ _ h => h) (fun _ h => h.elim) ?aF ?aB ?aS ?aL ?_
      (case aR => first | (have e_ := (Kd.C_below HR4400.out HB.out); rw [show ((l2.take ((wrap64 ((l2.length : Int) - 2)) : Int).toNat).drop 3).length = ((wrap64 ((l2.length : Int) - 2)).toNat - 3) from (by rw [List.length_drop, List.length_take]; have h_ : ((wrap64 ((l2.length : Int) - 2)) : Int) ≤ (l2.length : Int) := of_decide_eq_true (by first | (with_reducible assumption) | assumption); omega)] at e_; exact e_) | (rw [← show ((l2.take ((wrap64 ((l2.length : Int) - 2)) : Int).toNat).drop 3).length = ((wrap64 ((l2.length : Int) - 2)).toNat - 3) from (by rw [List.length_drop, List.length_take]; have h_ : ((wrap64 ((l2.length : Int) - 2)) : Int) ≤ (l2.length : Int) := of_decide_eq_true (by first | (with_reducible assumption) | assumption); omega)]; repeat (first | exact (Kd.C_below HR4400.out HB.out) | (with_reducible refine Kd.C_alloc ?_ _) | (with_reducible refine Kd.C_drewN ?_ _) | (with_reducible refine Kd.C_drew ?_))) | (repeat (first | exact (Kd.C_below HR4400.out HB.out) | (with_reducible refine Kd.C_alloc ?_ _) | (with_reducible refine Kd.C_drewN ?_ _) | (with_reducible refine Kd.C_drew ?_))))
      (case aB => exact (us_ HB.out))
      (case aF => exact (fun _ _ => trivial))
      (case aO => exact (Kd.ur_ HO248.out))
      (case aS => exact (below_size (us_ HB.out)))
      (case aL => have := LMc16.out; have hlx_ := (show ((l2.take ((wrap64 ((l2.length : Int) - 2)) : Int).toNat).drop 3).length = ((wrap64 ((l2.length : Int) - 2)).toNat - 3) from (by rw [List.length_drop, List.length_take]; have h_ : ((wrap64 ((l2.length : Int) - 2)) : Int) ≤ (l2.length : Int) := of_decide_eq_true (by first | (with_reducible assumption) | assumption); omega)); omega)
      intro v24203 w5800252 ho hb hg hat
      rw [← Ny250.out] at ho
      have n0_ := mk_ (blk_grown (g := gb241) (o := .cells #[.int .i64 0, .int .i64 0, .int .i64 0, .slice none 0 0] 40 (0, 0)) (u_ BK241.out) hg (Kd.R_ne HO248.out BK241.out (by decide)))
      have n1_ := mk_ (blk_grown (g := gb24205) (o := .cells #[.int .i64 0, .int .i64 0, .int .i64 0, .slice none 0 0] 40 (0, 0)) (u_ BK253.out) hg (Kd.R_ne HO248.out BK253.out (by decide)))
      have n2_ := mk_ (hb)
      have n3_ := mk_ (ho)
      clear BK241
      clear BK253
      clear HB
      clear HO248
      have BK241 := n0_
      have BK253 := n1_
      have HB := n2_
      have HO252 := n3_
      clear n0_ n1_ n2_ n3_
      clear ho hb hg hat
      obtain ⟨Ao5800252, co5800252, eo5800252⟩ := Kd.R_slice HO252.out
      (first | subst eo5800252 | (injection eo5800252 with f1_ f2_ f3_; have f4_ := f1_.symm; have f5_ := f3_.symm; clear f1_ f2_ f3_; subst f4_; subst f5_))
      refine hK.out _ _ ⟨((HB.out.cell (lc_ w _ hw244_0)).trans hw244_0), ((HB.out.cell (lc_ w _ hw245_0)).trans hw245_0)⟩ (fun hHeld => ?_)
      clear hK K
      refine norm_ (a' := ?_) ?_ ?_
      rotate_left
      ·show Act.put _ (some 38) _ = _
       simp only [Act.put, la_, lz_, ls_, i64_w, i32_w]
       rfl
      refine pure_ (i := 16) (N := some 39) (v := ?_) (a' := ?_) #[T_, T_, T_, T_, T_, T_, T_, T_, T_, T_, T_, T_, T_, T_, T_, T_, T_, T_, F_] rfl rfl (any_of HT_.out (by kernel_rfl)) (fun _ _ _ h => h) (Or.inl ⟨by rfl, ?_⟩) ?_ ?_
      rotate_left
      ·intro w'
       go_simp
       with_reducible rfl
      rotate_left
      ·simp only [Act.put, la_, lz_, ls_, i64_w, i32_w]
       rfl
      exact norm_ (by simp only [putAll, Act.put, la_, lz_, ls_]) (hCont (v24200, .slice Ao5800252 y250.length co5800252, gb24205) _ ⟨hHeld, (Kd.ur_ HO252.out), (u_ BK241.out), (u_ BK253.out), GW253.out, GE253.out, NB241_253.out, NB253_241.out, (us_ HB.out)⟩)
     rintro ⟨v24200, v24203, gb24205⟩ w24240 ⟨hS_, h0_, h1_, h2_, h3_, h4_, h5_, h6_, h7_⟩
     have n0_ : Aside0 (Kd.R (Kd.int .u8) 5 w24240 w.heap.size (fun _ => True) v24203 y250) := ⟨h0_⟩
     have n1_ : Aside0 (w24240.heap[gb241]? = some (.cells #[.int .i64 0, .int .i64 0, .int .i64 0, .slice none 0 0] 40 (0, 0))) := ⟨h1_⟩
     have n2_ : Aside0 (w24240.heap[gb24205]? = some (.cells #[.int .i64 0, .int .i64 0, .int .i64 0, .slice none 0 0] 40 (0, 0))) := ⟨h2_⟩
     have n3_ : Aside0 (w.heap.size ≤ gb24205) := ⟨h3_⟩
     have n4_ : Aside0 (w.heap.size ≤ gb24205) := ⟨h4_⟩
     have n5_ : Aside0 (gb241 ≠ gb24205) := ⟨h5_⟩
     have n6_ : Aside0 (gb24205 ≠ gb241) := ⟨h6_⟩
     have n7_ : Aside0 (Below w.heap.size w w24240) := ⟨h7_⟩
     clear BK241
     clear HB
     clear h0_ h1_ h2_ h3_ h4_ h5_ h6_ h7_
     have HO252 := n0_
     have BK241 := n1_
     have BK253 := n2_
     have GW253 := n3_
     have GE253 := ge_ n4_.out
     have NB241_253 := nq_ n5_.out
     have NB253_241 := nq_ n6_.out
     have HB := n7_
     clear n0_ n1_ n2_ n3_ n4_ n5_ n6_ n7_
     have hHeld : w24240.cell? ad3200 = some (.int .u8 (rd l2 0)) ∧ w24240.cell? ⟨ad3200.block, ad3200.off + 1, none⟩ = some (.int .u8 (rd l2 1)) := hS_
     obtain ⟨Ao1850252, co1850252, eo1850252⟩ := Kd.R_slice HO252.out
     (first | subst eo1850252 | (injection eo1850252 with f1_ f2_ f3_; have f4_ := f1_.symm; have f5_ := f3_.symm; clear f1_ f2_ f3_; subst f4_; subst f5_))
     refine norm_ (a' := ?_) ?_ ?_
     rotate_left
     ·simp only [putAll, Act.put, la_, lz_, ls_]
      rfl
     refine one_ (i := 18) (N := none) #[T_, T_, T_, T_, T_, T_, T_, T_, T_, T_, T_, T_, T_, T_, T_, T_, T_, T_, T_] rfl rfl (one_of HT_.out (by kernel_rfl)) (by decide) (fun K hK => ?_)
     have hs8640 : w24240.cell? ⟨gb24205, 0, none⟩ = some (.int .i64 0) := (blk_cell BK253.out 0).trans rfl
     have hfs8640 := blk_frozen BK253.out 0
     have hns8640_0 := NB241_253.out
     have hms8640_0 := NB253_241.out
     have hs8800 : w24240.cell? ⟨gb24205, 1, none⟩ = some (.int .i64 0) := (blk_cell BK253.out 1).trans rfl
     have hfs8800 := blk_frozen BK253.out 1
     have hns8800_0 := NB241_253.out
     have hms8800_0 := NB253_241.out
     have hs8960 : w24240.cell? ⟨gb24205, 2, none⟩ = some (.int .i64 0) := (blk_cell BK253.out 2).trans rfl
     have hfs8960 := blk_frozen BK253.out 2
     have hns8960_0 := NB241_253.out
     have hms8960_0 := NB253_241.out
     have hs9120 : w24240.cell? ⟨gb24205, 3, none⟩ = some (.slice none 0 0) := (blk_cell BK253.out 3).trans rfl
     have hfs9120 := blk_frozen BK253.out 3
     have hns9120_0 := NB241_253.out
     have hms9120_0 := NB253_241.out
     refine skip_ (w1 := ?_) (by rfl) rfl ?_ ?_
     rotate_left
     ·go_simp
      rfl
     refine hK.out _ _ ⟨((cell_far (p := ⟨gb24205, _, none⟩) (by first | exact (ne1_ (by have := lc_ _ _ hw244_0; first | rwa [add_block] at this | exact this) GW253.out) | (rw [add_block]; exact (ne1_ (by have := lc_ _ _ hw244_0; first | rwa [add_block] at this | exact this) GW253.out)) | (show (Addr.add _ _).block ≠ _; rw [add_block]; exact (ne1_ (by have := lc_ _ _ hw244_0; first | rwa [add_block] at this | exact this) GW253.out)) | (dsimp only; exact (ne1_ (by have := lc_ _ _ hw244_0; first | rwa [add_block] at this | exact this) GW253.out))) _).trans (((cell_far (p := ⟨gb24205, _, none⟩) (by first | exact (ne1_ (by have := lc_ _ _ hw244_0; first | rwa [add_block] at this | exact this) GW253.out) | (rw [add_block]; exact (ne1_ (by have := lc_ _ _ hw244_0; first | rwa [add_block] at this | exact this) GW253.out)) | (show (Addr.add _ _).block ≠ _; rw [add_block]; exact (ne1_ (by have := lc_ _ _ hw244_0; first | rwa [add_block] at this | exact this) GW253.out)) | (dsimp only; exact (ne1_ (by have := lc_ _ _ hw244_0; first | rwa [add_block] at this | exact this) GW253.out))) _).trans (((cell_far (p := ⟨gb24205, _, none⟩) (by first | exact (ne1_ (by have := lc_ _ _ hw244_0; first | rwa [add_block] at this | exact this) GW253.out) | (rw [add_block]; exact (ne1_ (by have := lc_ _ _ hw244_0; first | rwa [add_block] at this | exact this) GW253.out)) | (show (Addr.add _ _).block ≠ _; rw [add_block]; exact (ne1_ (by have := lc_ _ _ hw244_0; first | rwa [add_block] at this | exact this) GW253.out)) | (dsimp only; exact (ne1_ (by have := lc_ _ _ hw244_0; first | rwa [add_block] at this | exact this) GW253.out))) _).trans (((cell_far (p := ⟨gb24205, _, none⟩) (by first | exact (ne1_ (by have := lc_ _ _ hw244_0; first | rwa [add_block] at this | exact this) GW253.out) | (rw [add_block]; exact (ne1_ (by have := lc_ _ _ hw244_0; first | rwa [add_block] at this | exact this) GW253.out)) | (show (Addr.add _ _).block ≠ _; rw [add_block]; exact (ne1_ (by have := lc_ _ _ hw244_0; first | rwa [add_block] at this | exact this) GW253.out)) | (dsimp only; exact (ne1_ (by have := lc_ _ _ hw244_0; first | rwa [add_block] at this | exact this) GW253.out))) _).trans (hHeld.1)))))))), ((cell_far (p := ⟨gb24205, _, none⟩) (by first | exact (ne1_ (by have := lc_ _ _ hw245_0; first | rwa [add_block] at this | exact this) GW253.out) | (rw [add_block]; exact (ne1_ (by have := lc_ _ _ hw245_0; first | rwa [add_block] at this | exact this) GW253.out)) | (show (Addr.add _ _).block ≠ _; rw [add_block]; exact (ne1_ (by have := lc_ _ _ hw245_0; first | rwa [add_block] at this | exact this) GW253.out)) | (dsimp only; exact (ne1_ (by have := lc_ _ _ hw245_0; first | rwa [add_block] at this | exact this) GW253.out))) _).trans (((cell_far (p := ⟨gb24205, _, none⟩) (by first | exact (ne1_ (by have := lc_ _ _ hw245_0; first | rwa [add_block] at this | exact this) GW253.out) | (rw [add_block]; exact (ne1_ (by have := lc_ _ _ hw245_0; first | rwa [add_block] at this | exact this) GW253.out)) | (show (Addr.add _ _).block ≠ _; rw [add_block]; exact (ne1_ (by have := lc_ _ _ hw245_0; first | rwa [add_block] at this | exact this) GW253.out)) | (dsimp only; exact (ne1_ (by have := lc_ _ _ hw245_0; first | rwa [add_block] at this | exact this) GW253.out))) _).trans (((cell_far (p := ⟨gb24205, _, none⟩) (by first | exact (ne1_ (by have := lc_ _ _ hw245_0; first | rwa [add_block] at this | exact this) GW253.out) | (rw [add_block]; exact (ne1_ (by have := lc_ _ _ hw245_0; first | rwa [add_block] at this | exact this) GW253.out)) | (show (Addr.add _ _).block ≠ _; rw [add_block]; exact (ne1_ (by have := lc_ _ _ hw245_0; first | rwa [add_block] at this | exact this) GW253.out)) | (dsimp only; exact (ne1_ (by have := lc_ _ _ hw245_0; first | rwa [add_block] at this | exact this) GW253.out))) _).trans (((cell_far (p := ⟨gb24205, _, none⟩) (by first | exact (ne1_ (by have := lc_ _ _ hw245_0; first | rwa [add_block] at this | exact this) GW253.out) | (rw [add_block]; exact (ne1_ (by have := lc_ _ _ hw245_0; first | rwa [add_block] at this | exact this) GW253.out)) | (show (Addr.add _ _).block ≠ _; rw [add_block]; exact (ne1_ (by have := lc_ _ _ hw245_0; first | rwa [add_block] at this | exact this) GW253.out)) | (dsimp only; exact (ne1_ (by have := lc_ _ _ hw245_0; first | rwa [add_block] at this | exact this) GW253.out))) _).trans (hHeld.2))))))))⟩ (fun hHeld => ?_)
     clear hK K
     refine done_ (done_of HT_.out (by kernel_rfl)) ?_
     try go_wp2
     have n0_ : Aside0 (Kd.R (Kd.int .u8) 5 ((((w24240.setCell ⟨gb24205, 0, none⟩ (.int .i64 a0)).setCell ⟨gb24205, 1, none⟩ (.int .i64 (wrap64 (rd l2 0)))).setCell ⟨gb24205, 2, none⟩ (.int .i64 (wrap64 (rd l2 1)))).setCell ⟨gb24205, 3, none⟩ (.slice Ao1850252 y250.length co1850252)) w.heap.size (fun _ => True) (.slice Ao1850252 y250.length co1850252) y250) := ⟨by (with_reducible repeat (first | apply Kd.R_alloc | apply Kd.R_drewN | apply Kd.R_drew)); exact Kd.R_mono (Kd.R_far (p := ⟨gb24205, 3, none⟩) (Kd.R_far (p := ⟨gb24205, 2, none⟩) (Kd.R_far (p := ⟨gb24205, 1, none⟩) (Kd.R_far (p := ⟨gb24205, 0, none⟩) (Kd.R_types HO252.out BK253.out (by decide)) (fun _ hk => hk.2) (.int .i64 a0)) (fun _ hk => hk.2) (.int .i64 (wrap64 (rd l2 0)))) (fun _ hk => hk.2) (.int .i64 (wrap64 (rd l2 1)))) (fun _ hk => hk.2) (.slice Ao1850252 y250.length co1850252)) (fun _ hk => trivial)⟩
     have n1_ : Aside0 (((((w24240.setCell ⟨gb24205, 0, none⟩ (.int .i64 a0)).setCell ⟨gb24205, 1, none⟩ (.int .i64 (wrap64 (rd l2 0)))).setCell ⟨gb24205, 2, none⟩ (.int .i64 (wrap64 (rd l2 1)))).setCell ⟨gb24205, 3, none⟩ (.slice Ao1850252 y250.length co1850252)).heap[gb241]? = some (.cells #[.int .i64 0, .int .i64 0, .int .i64 0, .slice none 0 0] 40 (0, 0))) := ⟨uf_ BK241.out⟩
     have n2_ : Aside0 (((((w24240.setCell ⟨gb24205, 0, none⟩ (.int .i64 a0)).setCell ⟨gb24205, 1, none⟩ (.int .i64 (wrap64 (rd l2 0)))).setCell ⟨gb24205, 2, none⟩ (.int .i64 (wrap64 (rd l2 1)))).setCell ⟨gb24205, 3, none⟩ (.slice Ao1850252 y250.length co1850252)).heap[gb24205]? = some (.cells #[.int .i64 a0, .int .i64 (wrap64 (rd l2 0)), .int .i64 (wrap64 (rd l2 1)), .slice Ao1850252 y250.length co1850252] 40 (0, 0))) := ⟨by (with_reducible repeat (first | refine bn_ ?_ _ | refine bw_ ?_ | refine ba_ ?_ _)); refine blk_put (cs := #[.int .i64 a0, .int .i64 (wrap64 (rd l2 0)), .int .i64 (wrap64 (rd l2 1)), .slice none 0 0]) ?_ 3 _ rfl; (with_reducible repeat (first | refine bn_ ?_ _ | refine bw_ ?_ | refine ba_ ?_ _)); refine blk_put (cs := #[.int .i64 a0, .int .i64 (wrap64 (rd l2 0)), .int .i64 0, .slice none 0 0]) ?_ 2 _ rfl; (with_reducible repeat (first | refine bn_ ?_ _ | refine bw_ ?_ | refine ba_ ?_ _)); refine blk_put (cs := #[.int .i64 a0, .int .i64 0, .int .i64 0, .slice none 0 0]) ?_ 1 _ rfl; (with_reducible repeat (first | refine bn_ ?_ _ | refine bw_ ?_ | refine ba_ ?_ _)); refine blk_put (cs := #[.int .i64 0, .int .i64 0, .int .i64 0, .slice none 0 0]) ?_ 0 _ rfl; (with_reducible repeat (first | refine bn_ ?_ _ | refine bw_ ?_ | refine ba_ ?_ _)); exact BK253.out⟩
     have n3_ : Aside0 (Below w.heap.size w ((((w24240.setCell ⟨gb24205, 0, none⟩ (.int .i64 a0)).setCell ⟨gb24205, 1, none⟩ (.int .i64 (wrap64 (rd l2 0)))).setCell ⟨gb24205, 2, none⟩ (.int .i64 (wrap64 (rd l2 1)))).setCell ⟨gb24205, 3, none⟩ (.slice Ao1850252 y250.length co1850252))) := ⟨us_ HB.out⟩
     (try clear HO252)
     (try clear BK241)
     (try clear BK253)
     (try clear HB)
     generalize ((((w24240.setCell ⟨gb24205, 0, none⟩ (.int .i64 a0)).setCell ⟨gb24205, 1, none⟩ (.int .i64 (wrap64 (rd l2 0)))).setCell ⟨gb24205, 2, none⟩ (.int .i64 (wrap64 (rd l2 1)))).setCell ⟨gb24205, 3, none⟩ (.slice Ao1850252 y250.length co1850252)) = w24600 at n0_ n1_ n2_ n3_ ⊢
     have HO252 := n0_
     have BK241 := n1_
     have BK253 := n2_
     have HB := n3_
     clear n0_ n1_ n2_ n3_
     have n0_ := mk_ (Kd.R_drew HO252.out)
     have n1_ := mk_ (blk_drew BK241.out)
     have n2_ := mk_ (blk_drew BK253.out)
     have n3_ := mk_ (below_drew1 HB.out)
     clear HO252
     clear BK241
     clear BK253
     clear HB
     have HO252 := n0_
     have BK241 := n1_
     have BK253 := n2_
     have HB := n3_
     clear n0_ n1_ n2_ n3_
    rotate_left
   rotate_right 2
   ·refine start_ (n := 29) (S := fun w' => w'.cell? ⟨gb24205, 0, none⟩ = some (.int .i64 a0) ∧ w'.cell? ⟨gb24205, 1, none⟩ = some (.int .i64 (wrap64 (rd l2 0))) ∧ w'.cell? ⟨gb24205, 2, none⟩ = some (.int .i64 (wrap64 (rd l2 1))) ∧ w'.cell? ⟨gb24205, 3, none⟩ = some (.slice Ao1850252 y250.length co1850252)) (ds := []) #[F_, F_, F_, F_, F_, F_, F_, F_, F_, F_, F_, F_, F_, F_, F_, F_, F_, F_, F_, F_, F_, F_, F_, F_, F_, F_, F_, F_, F_] (by kernel_rfl) rfl rfl ⟨(blk_cell BK253.out 0).trans rfl, (blk_cell BK253.out 1).trans rfl, (blk_cell BK253.out 2).trans rfl, (blk_cell BK253.out 3).trans rfl⟩ (fun hHeld => ?_); refine with_tabW spec_MailFrom.tab4 spec_MailFrom.bits4 (fun HT_ HW_ => ?_)
    generalize w24600.drew = w25400 at HO252 BK241 BK253 HB hHeld ⊢
    refine take_ (i := 0) (N := some 40) (v := ?_) (a' := ?_) #[T_, F_, F_, F_, F_, F_, F_, F_, F_, F_, F_, F_, F_, F_, F_, F_, F_, F_, F_, F_, F_, F_, F_, F_, F_, F_, F_, F_, F_] rfl rfl (take_ofW HT_.out HW_.out (by kernel_rfl)) (fun _ _ _ h => h) (Or.inl ⟨by rfl, ?_⟩) hHeld ?_ ?_
    rotate_left
    ·rintro w' ⟨s6680, s6681, s12960, s12961⟩
     go_simp
     with_reducible rfl
    rotate_left
    ·simp only [Act.put, la_, lz_, ls_, i64_w, i32_w]
     rfl
    refine one_ (i := 1) (N := some 41) #[T_, T_, F_, F_, F_, F_, F_, F_, F_, F_, F_, F_, F_, F_, F_, F_, F_, F_, F_, F_, F_, F_, F_, F_, F_, F_, F_, F_, F_] rfl rfl (one_of HT_.out (by kernel_rfl)) (by decide) (fun K hK => ?_)
    refine goes_ Try.func41 (by kernel_rfl) rfl #[.agg #[.int .i64 a0, .int .i64 (wrap64 (rd l2 0)), .int .i64 (wrap64 (rd l2 1)), .slice Ao1850252 y250.length co1850252]] (by rfl) rfl rfl (by (try simp only [lm_, lo_, ln_]); try rfl) ?_
    with_reducible refine (spec_MailOk.calls a0 (wrap64 (rd l2 0)) (wrap64 (rd l2 1)) _ _ y250 false _ ?side1 ?side2 A17.out).mono ?_
    (case side1 => repeat (first | exact (Kd.R_reads' HO252.out).2.2 | (with_reducible refine Kd.C_alloc ?_ _) | (with_reducible refine Kd.C_drewN ?_ _) | (with_reducible refine Kd.C_drew ?_)))
    (case side2 => exact (Kd.R_reads' HO252.out).2.1)
    rintro e w12080 ⟨rfl, hb⟩
    refine ⟨_, rfl, ?_⟩
    have n0_ := mk_ (Kd.R_below (Kd.ur_ HO252.out) hb)
    have n1_ := mk_ (blk_below (u_ BK241.out) hb)
    have n2_ := mk_ (blk_below (u_ BK253.out) hb)
    have n3_ := mk_ (below_step (us_ HB.out) hb)
    clear HO252
    clear BK241
    clear BK253
    clear HB
    have HO252 := n0_
    have BK241 := n1_
    have BK253 := n2_
    have HB := n3_
    clear n0_ n1_ n2_ n3_
    (try clear hb)
    (try clear hb2)
    (try clear hk)
    (try clear hi)
    refine hK.out _ _ ⟨(blk_cell BK253.out 0).trans rfl, (blk_cell BK253.out 1).trans rfl, (blk_cell BK253.out 2).trans rfl, (blk_cell BK253.out 3).trans rfl⟩ (fun hHeld => ?_)
    clear hK K
    refine norm_ (a' := ?_) ?_ ?_
    rotate_left
    ·show Act.put _ (some 41) _ = _
     simp only [Act.put, la_, lz_, ls_, i64_w, i32_w]
     rfl
    refine pure_ (i := 2) (N := some 42) (v := ?_) (a' := ?_) #[T_, T_, T_, F_, F_, F_, F_, F_, F_, F_, F_, F_, F_, F_, F_, F_, F_, F_, F_, F_, F_, F_, F_, F_, F_, F_, F_, F_, F_] rfl rfl (any_of HT_.out (by kernel_rfl)) (fun _ _ _ h => h) (Or.inl ⟨by rfl, ?_⟩) ?_ ?_
    rotate_left
    ·intro w'
     go_simp
     with_reducible rfl
    rotate_left
    ·simp only [Act.put, la_, lz_, ls_, i64_w, i32_w]
     rfl
    refine pure_ (i := 3) (N := some 43) (v := ?_) (a' := ?_) #[T_, T_, T_, T_, F_, F_, F_, F_, F_, F_, F_, F_, F_, F_, F_, F_, F_, F_, F_, F_, F_, F_, F_, F_, F_, F_, F_, F_, F_] rfl rfl (any_of HT_.out (by kernel_rfl)) (fun _ _ _ h => h) (Or.inl ⟨by rfl, ?_⟩) ?_ ?_
    rotate_left
    ·intro w'
     go_simp
     with_reducible rfl
    rotate_left
    ·simp only [Act.put, la_, lz_, ls_, i64_w, i32_w]
     rfl
    refine pure_ (i := 4) (N := some 44) (v := undef) (a' := ?_) #[T_, T_, T_, T_, T_, F_, F_, F_, F_, F_, F_, F_, F_, F_, F_, F_, F_, F_, F_, F_, F_, F_, F_, F_, F_, F_, F_, F_, F_] rfl rfl (any_of HT_.out (by kernel_rfl)) (fun _ _ _ h => h) (Or.inr ⟨by rfl, rfl⟩) ?_ ?_
    rotate_left
    ·simp only [Act.put, la_, lz_, ls_, i64_w, i32_w]
     rfl
    refine pure_ (i := 5) (N := some 45) (v := undef) (a' := ?_) #[T_, T_, T_, T_, T_, T_, F_, F_, F_, F_, F_, F_, F_, F_, F_, F_, F_, F_, F_, F_, F_, F_, F_, F_, F_, F_, F_, F_, F_] rfl rfl (any_of HT_.out (by kernel_rfl)) (fun _ _ _ h => h) (Or.inr ⟨by rfl, rfl⟩) ?_ ?_
    rotate_left
    ·simp only [Act.put, la_, lz_, ls_, i64_w, i32_w]
     rfl
    refine pure_ (i := 6) (N := some 46) (v := undef) (a' := ?_) #[T_, T_, T_, T_, T_, T_, T_, F_, F_, F_, F_, F_, F_, F_, F_, F_, F_, F_, F_, F_, F_, F_, F_, F_, F_, F_, F_, F_, F_] rfl rfl (any_of HT_.out (by kernel_rfl)) (fun _ _ _ h => h) (Or.inr ⟨by rfl, rfl⟩) ?_ ?_
    rotate_left
    ·simp only [Act.put, la_, lz_, ls_, i64_w, i32_w]
     rfl
    refine pure_ (i := 7) (N := some 47) (v := undef) (a' := ?_) #[T_, T_, T_, T_, T_, T_, T_, T_, F_, F_, F_, F_, F_, F_, F_, F_, F_, F_, F_, F_, F_, F_, F_, F_, F_, F_, F_, F_, F_] rfl rfl (any_of HT_.out (by kernel_rfl)) (fun _ _ _ h => h) (Or.inr ⟨by rfl, rfl⟩) ?_ ?_
    rotate_left
    ·simp only [Act.put, la_, lz_, ls_, i64_w, i32_w]
     rfl
    refine pure_ (i := 8) (N := some 48) (v := undef) (a' := ?_) #[T_, T_, T_, T_, T_, T_, T_, T_, T_, F_, F_, F_, F_, F_, F_, F_, F_, F_, F_, F_, F_, F_, F_, F_, F_, F_, F_, F_, F_] rfl rfl (any_of HT_.out (by kernel_rfl)) (fun _ _ _ h => h) (Or.inr ⟨by rfl, rfl⟩) ?_ ?_
    rotate_left
    ·simp only [Act.put, la_, lz_, ls_, i64_w, i32_w]
     rfl
    refine pure_ (i := 9) (N := some 49) (v := undef) (a' := ?_) #[T_, T_, T_, T_, T_, T_, T_, T_, T_, T_, F_, F_, F_, F_, F_, F_, F_, F_, F_, F_, F_, F_, F_, F_, F_, F_, F_, F_, F_] rfl rfl (any_of HT_.out (by kernel_rfl)) (fun _ _ _ h => h) (Or.inr ⟨by rfl, rfl⟩) ?_ ?_
    rotate_left
    ·simp only [Act.put, la_, lz_, ls_, i64_w, i32_w]
     rfl
    refine pure_ (i := 10) (N := some 50) (v := undef) (a' := ?_) #[T_, T_, T_, T_, T_, T_, T_, T_, T_, T_, T_, F_, F_, F_, F_, F_, F_, F_, F_, F_, F_, F_, F_, F_, F_, F_, F_, F_, F_] rfl rfl (any_of HT_.out (by kernel_rfl)) (fun _ _ _ h => h) (Or.inr ⟨by rfl, rfl⟩) ?_ ?_
    rotate_left
    ·simp only [Act.put, la_, lz_, ls_, i64_w, i32_w]
     rfl
    refine pure_ (i := 11) (N := some 51) (v := undef) (a' := ?_) #[T_, T_, T_, T_, T_, T_, T_, T_, T_, T_, T_, T_, F_, F_, F_, F_, F_, F_, F_, F_, F_, F_, F_, F_, F_, F_, F_, F_, F_] rfl rfl (any_of HT_.out (by kernel_rfl)) (fun _ _ _ h => h) (Or.inr ⟨by rfl, rfl⟩) ?_ ?_
    rotate_left
    ·simp only [Act.put, la_, lz_, ls_, i64_w, i32_w]
     rfl
    refine pure_ (i := 12) (N := some 52) (v := ?_) (a' := ?_) #[T_, T_, T_, T_, T_, T_, T_, T_, T_, T_, T_, T_, T_, F_, F_, F_, F_, F_, F_, F_, F_, F_, F_, F_, F_, F_, F_, F_, F_] rfl rfl (any_of HT_.out (by kernel_rfl)) (fun _ _ _ h => h) (Or.inl ⟨by rfl, ?_⟩) ?_ ?_
    rotate_left
    ·intro w'
     go_simp
     with_reducible rfl
    rotate_left
    ·simp only [Act.put, la_, lz_, ls_, i64_w, i32_w]
     rfl
    refine pure_ (i := 13) (N := some 53) (v := ?_) (a' := ?_) #[T_, T_, T_, T_, T_, T_, T_, T_, T_, T_, T_, T_, T_, T_, F_, F_, F_, F_, F_, F_, F_, F_, F_, F_, F_, F_, F_, F_, F_] rfl rfl (any_of HT_.out (by kernel_rfl)) (fun _ _ _ h => h) (Or.inl ⟨by rfl, ?_⟩) ?_ ?_
    rotate_left
    ·intro w'
     go_simp
     with_reducible rfl
    rotate_left
    ·simp only [Act.put, la_, lz_, ls_, i64_w, i32_w]
     rfl
    refine pure_ (i := 14) (N := some 54) (v := undef) (a' := ?_) #[T_, T_, T_, T_, T_, T_, T_, T_, T_, T_, T_, T_, T_, T_, T_, F_, F_, F_, F_, F_, F_, F_, F_, F_, F_, F_, F_, F_, F_] rfl rfl (any_of HT_.out (by kernel_rfl)) (fun _ _ _ h => h) (Or.inr ⟨by rfl, rfl⟩) ?_ ?_
    rotate_left
    ·simp only [Act.put, la_, lz_, ls_, i64_w, i32_w]
     rfl
    refine pure_ (i := 15) (N := some 55) (v := undef) (a' := ?_) #[T_, T_, T_, T_, T_, T_, T_, T_, T_, T_, T_, T_, T_, T_, T_, T_, F_, F_, F_, F_, F_, F_, F_, F_, F_, F_, F_, F_, F_] rfl rfl (any_of HT_.out (by kernel_rfl)) (fun _ _ _ h => h) (Or.inr ⟨by rfl, rfl⟩) ?_ ?_
    rotate_left
    ·simp only [Act.put, la_, lz_, ls_, i64_w, i32_w]
     rfl
    refine pure_ (i := 16) (N := some 56) (v := undef) (a' := ?_) #[T_, T_, T_, T_, T_, T_, T_, T_, T_, T_, T_, T_, T_, T_, T_, T_, T_, F_, F_, F_, F_, F_, F_, F_, F_, F_, F_, F_, F_] rfl rfl (any_of HT_.out (by kernel_rfl)) (fun _ _ _ h => h) (Or.inr ⟨by rfl, rfl⟩) ?_ ?_
    rotate_left
    ·simp only [Act.put, la_, lz_, ls_, i64_w, i32_w]
     rfl
    refine pure_ (i := 17) (N := some 57) (v := undef) (a' := ?_) #[T_, T_, T_, T_, T_, T_, T_, T_, T_, T_, T_, T_, T_, T_, T_, T_, T_, T_, F_, F_, F_, F_, F_, F_, F_, F_, F_, F_, F_] rfl rfl (any_of HT_.out (by kernel_rfl)) (fun _ _ _ h => h) (Or.inr ⟨by rfl, rfl⟩) ?_ ?_
    rotate_left
    ·simp only [Act.put, la_, lz_, ls_, i64_w, i32_w]
     rfl
    refine pure_ (i := 18) (N := some 58) (v := undef) (a' := ?_) #[T_, T_, T_, T_, T_, T_, T_, T_, T_, T_, T_, T_, T_, T_, T_, T_, T_, T_, T_, F_, F_, F_, F_, F_, F_, F_, F_, F_, F_] rfl rfl (any_of HT_.out (by kernel_rfl)) (fun _ _ _ h => h) (Or.inr ⟨by rfl, rfl⟩) ?_ ?_
    rotate_left
    ·simp only [Act.put, la_, lz_, ls_, i64_w, i32_w]
     rfl
    refine pure_ (i := 19) (N := some 59) (v := undef) (a' := ?_) #[T_, T_, T_, T_, T_, T_, T_, T_, T_, T_, T_, T_, T_, T_, T_, T_, T_, T_, T_, T_, F_, F_, F_, F_, F_, F_, F_, F_, F_] rfl rfl (any_of HT_.out (by kernel_rfl)) (fun _ _ _ h => h) (Or.inr ⟨by rfl, rfl⟩) ?_ ?_
    rotate_left
    ·simp only [Act.put, la_, lz_, ls_, i64_w, i32_w]
     rfl
    refine pure_ (i := 20) (N := some 60) (v := undef) (a' := ?_) #[T_, T_, T_, T_, T_, T_, T_, T_, T_, T_, T_, T_, T_, T_, T_, T_, T_, T_, T_, T_, T_, F_, F_, F_, F_, F_, F_, F_, F_] rfl rfl (any_of HT_.out (by kernel_rfl)) (fun _ _ _ h => h) (Or.inr ⟨by rfl, rfl⟩) ?_ ?_
    rotate_left
    ·simp only [Act.put, la_, lz_, ls_, i64_w, i32_w]
     rfl
    refine pure_ (i := 21) (N := some 61) (v := undef) (a' := ?_) #[T_, T_, T_, T_, T_, T_, T_, T_, T_, T_, T_, T_, T_, T_, T_, T_, T_, T_, T_, T_, T_, T_, F_, F_, F_, F_, F_, F_, F_] rfl rfl (any_of HT_.out (by kernel_rfl)) (fun _ _ _ h => h) (Or.inr ⟨by rfl, rfl⟩) ?_ ?_
    rotate_left
    ·simp only [Act.put, la_, lz_, ls_, i64_w, i32_w]
     rfl
    refine pure_ (i := 22) (N := some 62) (v := undef) (a' := ?_) #[T_, T_, T_, T_, T_, T_, T_, T_, T_, T_, T_, T_, T_, T_, T_, T_, T_, T_, T_, T_, T_, T_, T_, F_, F_, F_, F_, F_, F_] rfl rfl (any_of HT_.out (by kernel_rfl)) (fun _ _ _ h => h) (Or.inr ⟨by rfl, rfl⟩) ?_ ?_
    rotate_left
    ·simp only [Act.put, la_, lz_, ls_, i64_w, i32_w]
     rfl
    refine pure_ (i := 23) (N := some 63) (v := undef) (a' := ?_) #[T_, T_, T_, T_, T_, T_, T_, T_, T_, T_, T_, T_, T_, T_, T_, T_, T_, T_, T_, T_, T_, T_, T_, T_, F_, F_, F_, F_, F_] rfl rfl (any_of HT_.out (by kernel_rfl)) (fun _ _ _ h => h) (Or.inr ⟨by rfl, rfl⟩) ?_ ?_
    rotate_left
    ·simp only [Act.put, la_, lz_, ls_, i64_w, i32_w]
     rfl
    refine pure_ (i := 24) (N := some 64) (v := undef) (a' := ?_) #[T_, T_, T_, T_, T_, T_, T_, T_, T_, T_, T_, T_, T_, T_, T_, T_, T_, T_, T_, T_, T_, T_, T_, T_, T_, F_, F_, F_, F_] rfl rfl (any_of HT_.out (by kernel_rfl)) (fun _ _ _ h => h) (Or.inr ⟨by rfl, rfl⟩) ?_ ?_
    rotate_left
    ·simp only [Act.put, la_, lz_, ls_, i64_w, i32_w]
     rfl
    refine pure_ (i := 25) (N := some 65) (v := undef) (a' := ?_) #[T_, T_, T_, T_, T_, T_, T_, T_, T_, T_, T_, T_, T_, T_, T_, T_, T_, T_, T_, T_, T_, T_, T_, T_, T_, T_, F_, F_, F_] rfl rfl (any_of HT_.out (by kernel_rfl)) (fun _ _ _ h => h) (Or.inr ⟨by rfl, rfl⟩) ?_ ?_
    rotate_left
    ·simp only [Act.put, la_, lz_, ls_, i64_w, i32_w]
     rfl
    refine pure_ (i := 26) (N := some 66) (v := undef) (a' := ?_) #[T_, T_, T_, T_, T_, T_, T_, T_, T_, T_, T_, T_, T_, T_, T_, T_, T_, T_, T_, T_, T_, T_, T_, T_, T_, T_, T_, F_, F_] rfl rfl (any_of HT_.out (by kernel_rfl)) (fun _ _ _ h => h) (Or.inr ⟨by rfl, rfl⟩) ?_ ?_
    rotate_left
    ·simp only [Act.put, la_, lz_, ls_, i64_w, i32_w]
     rfl
    refine pure_ (i := 27) (N := some 67) (v := undef) (a' := ?_) #[T_, T_, T_, T_, T_, T_, T_, T_, T_, T_, T_, T_, T_, T_, T_, T_, T_, T_, T_, T_, T_, T_, T_, T_, T_, T_, T_, T_, F_] rfl rfl (any_of HT_.out (by kernel_rfl)) (fun _ _ _ h => h) (Or.inr ⟨by rfl, rfl⟩) ?_ ?_
    rotate_left
    ·simp only [Act.put, la_, lz_, ls_, i64_w, i32_w]
     rfl
    refine pure_ (i := 28) (N := some 68) (v := ?_) (a' := ?_) #[T_, T_, T_, T_, T_, T_, T_, T_, T_, T_, T_, T_, T_, T_, T_, T_, T_, T_, T_, T_, T_, T_, T_, T_, T_, T_, T_, T_, T_] rfl rfl (any_of HT_.out (by kernel_rfl)) (fun _ _ _ h => h) (Or.inl ⟨by rfl, ?_⟩) ?_ ?_
    rotate_left
    ·intro w'
     go_simp
     with_reducible rfl
    rotate_left
    ·simp only [Act.put, la_, lz_, ls_, i64_w, i32_w]
     rfl
    refine done_ (done_of HT_.out (by kernel_rfl)) ?_
    have hnb2130241253 := NB241_253.out
    have hnc2130241253 := NB253_241.out
    obtain ⟨_, _, _, _, _, _, _, _⟩ := cells4_ BK241.out
    try go_wp2
    refine bodyPost_ret (results_ct rfl _ _ gb241 40 #[.int .i64 0, .int .i64 0, .int .i64 0, .slice none 0 0] (0, 0) _ rfl (by (with_reducible repeat (first | refine bn_ ?_ _ | refine bw_ ?_ | refine ba_ ?_ _)); refine blk_put (cs := #[.int .i64 0, .int .i64 0, .int .i64 0, .slice none 0 0]) ?_ 3 _ rfl; (with_reducible repeat (first | refine bn_ ?_ _ | refine bw_ ?_ | refine ba_ ?_ _)); refine blk_put (cs := #[.int .i64 0, .int .i64 0, .int .i64 0, .slice none 0 0]) ?_ 2 _ rfl; (with_reducible repeat (first | refine bn_ ?_ _ | refine bw_ ?_ | refine ba_ ?_ _)); refine blk_put (cs := #[.int .i64 0, .int .i64 0, .int .i64 0, .slice none 0 0]) ?_ 1 _ rfl; (with_reducible repeat (first | refine bn_ ?_ _ | refine bw_ ?_ | refine ba_ ?_ _)); refine blk_put (cs := #[.int .i64 0, .int .i64 0, .int .i64 0, .slice none 0 0]) ?_ 0 _ rfl; (with_reducible repeat (first | refine bn_ ?_ _ | refine bw_ ?_ | refine ba_ ?_ _)); exact BK241.out) Try.underlying40 rfl (by kernel_rfl)) rfl ?_
    exact ⟨_, by first | rfl | (simp [errW_none, errW_some] <;> rfl) | (simp [*, errW_none, errW_some] <;> rfl), by first | exact Kd.R_nil _ _ _ _ _ | exact Kd.N_nil _ _ _ _ _ | exact Kd.V_nil _ _ _ _ _ | exact Kd.Q_nil _ _ _ _ _ | exact Kd.S_nil _ _ _ _ _, us_ HB.out⟩
   ·have p26920 : 0 ≤ (2 : Int) := (by omega)
    have q26920 : 2 < (l2.length : Int) := of_decide_eq_true (by first | (with_reducible assumption) | assumption)
    obtain ⟨ad26920, e26920, hx255_0⟩ := Kd.at_int HR2.out 2 p26920 q26920
    have hw255_0 := hx255_0
    (try rw [show ((2 : Int)).toNat = 2 from rfl] at hw255_0)
    (try rw [show 2 * 1 = 2 from rfl] at hw255_0)
    (try simp only [Nat.reduceMul, Nat.reduceEqDiff, Go.Addr.add, ↓reduceIte] at hw255_0)
    obtain rfl : ad3200 = ad26920 := (by injection e26920)
    (try simp only [show (2 : Int).toNat = 2 from rfl, Nat.reduceMul, Nat.reduceEqDiff, Go.Addr.add, ↓reduceIte] at hx255_0)
    have qi26920 : (2 < l2.length) = True := eq_true (by omega)
    (try rw [show ((2 : Int)).toNat = 2 from rfl] at hx255_0)
    replace hx255_0 := (HB.out.cell (lc_ w _ hx255_0)).trans hx255_0
    replace p26920 := eq_true p26920
    replace q26920 := eq_true q26920
    refine start_ (n := 29) (S := fun w' => w'.cell? ⟨gb24205, 0, none⟩ = some (.int .i64 a0) ∧ w'.cell? ⟨gb24205, 1, none⟩ = some (.int .i64 (wrap64 (rd l2 0))) ∧ w'.cell? ⟨gb24205, 2, none⟩ = some (.int .i64 (wrap64 (rd l2 1))) ∧ w'.cell? ⟨gb24205, 3, none⟩ = some (.slice Ao1850252 y250.length co1850252) ∧ w'.cell? ⟨ad3200.block, ad3200.off + 2, none⟩ = some (.int .u8 (rd l2 2))) (ds := []) #[F_, F_, F_, F_, F_, F_, F_, F_, F_, F_, F_, F_, F_, F_, F_, F_, F_, F_, F_, F_, F_, F_, F_, F_, F_, F_, F_, F_, F_] (by kernel_rfl) rfl rfl ⟨(blk_cell BK253.out 0).trans rfl, (blk_cell BK253.out 1).trans rfl, (blk_cell BK253.out 2).trans rfl, (blk_cell BK253.out 3).trans rfl, ((HB.out.cell (lc_ w _ hw255_0)).trans hw255_0)⟩ (fun hHeld => ?_); refine with_tabW spec_MailFrom.tab4 spec_MailFrom.bits4 (fun HT_ HW_ => ?_)
    generalize w24600.drew = w27280 at HO252 BK241 BK253 HB hx255_0 hHeld ⊢
    refine take_ (i := 0) (N := some 40) (v := ?_) (a' := ?_) #[T_, F_, F_, F_, F_, F_, F_, F_, F_, F_, F_, F_, F_, F_, F_, F_, F_, F_, F_, F_, F_, F_, F_, F_, F_, F_, F_, F_, F_] rfl rfl (take_ofW HT_.out HW_.out (by kernel_rfl)) (fun _ _ _ h => h) (Or.inl ⟨by rfl, ?_⟩) hHeld ?_ ?_
    rotate_left
    ·rintro w' ⟨s6680, s6681, s27320, s27321, s27322⟩
     go_simp
     with_reducible rfl
    rotate_left
    ·simp only [Act.put, la_, lz_, ls_, i64_w, i32_w]
     rfl
    refine one_ (i := 1) (N := some 41) #[T_, T_, F_, F_, F_, F_, F_, F_, F_, F_, F_, F_, F_, F_, F_, F_, F_, F_, F_, F_, F_, F_, F_, F_, F_, F_, F_, F_, F_] rfl rfl (one_of HT_.out (by kernel_rfl)) (by decide) (fun K hK => ?_)
    refine goes_ Try.func41 (by kernel_rfl) rfl #[.agg #[.int .i64 a0, .int .i64 (wrap64 (rd l2 0)), .int .i64 (wrap64 (rd l2 1)), .slice Ao1850252 y250.length co1850252]] (by rfl) rfl rfl (by (try simp only [lm_, lo_, ln_]); try rfl) ?_
    with_reducible refine (spec_MailOk.calls a0 (wrap64 (rd l2 0)) (wrap64 (rd l2 1)) _ _ y250 true _ ?side1 ?side2 A17.out).mono ?_
    (case side1 => repeat (first | exact (Kd.R_reads' HO252.out).2.2 | (with_reducible refine Kd.C_alloc ?_ _) | (with_reducible refine Kd.C_drewN ?_ _) | (with_reducible refine Kd.C_drew ?_)))
    (case side2 => exact (Kd.R_reads' HO252.out).2.1)
    rintro e w12080 ⟨rfl, hb⟩
    refine ⟨_, rfl, ?_⟩
    have n0_ := mk_ (Kd.R_below (Kd.ur_ HO252.out) hb)
    have n1_ := mk_ (blk_below (u_ BK241.out) hb)
    have n2_ := mk_ (blk_below (u_ BK253.out) hb)
    have n3_ := mk_ (below_step (us_ HB.out) hb)
    clear HO252
    clear BK241
    clear BK253
    clear HB
    have HO252 := n0_
    have BK241 := n1_
    have BK253 := n2_
    have HB := n3_
    clear n0_ n1_ n2_ n3_
    (try clear hb)
    (try clear hb2)
    (try clear hk)
    (try clear hi)
    refine hK.out _ _ ⟨(blk_cell BK253.out 0).trans rfl, (blk_cell BK253.out 1).trans rfl, (blk_cell BK253.out 2).trans rfl, (blk_cell BK253.out 3).trans rfl, ((HB.out.cell (lc_ w _ hw255_0)).trans hw255_0)⟩ (fun hHeld => ?_)
    clear hK K
    refine norm_ (a' := ?_) ?_ ?_
    rotate_left
    ·show Act.put _ (some 41) _ = _
     simp only [Act.put, la_, lz_, ls_, i64_w, i32_w]
     rfl
    refine pure_ (i := 2) (N := some 42) (v := ?_) (a' := ?_) #[T_, T_, T_, F_, F_, F_, F_, F_, F_, F_, F_, F_, F_, F_, F_, F_, F_, F_, F_, F_, F_, F_, F_, F_, F_, F_, F_, F_, F_] rfl rfl (any_of HT_.out (by kernel_rfl)) (fun _ _ _ h => h) (Or.inl ⟨by rfl, ?_⟩) ?_ ?_
    rotate_left
    ·intro w'
     go_simp
     with_reducible rfl
    rotate_left
    ·simp only [Act.put, la_, lz_, ls_, i64_w, i32_w]
     rfl
    refine pure_ (i := 3) (N := some 43) (v := ?_) (a' := ?_) #[T_, T_, T_, T_, F_, F_, F_, F_, F_, F_, F_, F_, F_, F_, F_, F_, F_, F_, F_, F_, F_, F_, F_, F_, F_, F_, F_, F_, F_] rfl rfl (any_of HT_.out (by kernel_rfl)) (fun _ _ _ h => h) (Or.inl ⟨by rfl, ?_⟩) ?_ ?_
    rotate_left
    ·intro w'
     go_simp
     with_reducible rfl
    rotate_left
    ·simp only [Act.put, la_, lz_, ls_, i64_w, i32_w]
     rfl
    refine pure_ (i := 4) (N := some 44) (v := ?_) (a' := ?_) #[T_, T_, T_, T_, T_, F_, F_, F_, F_, F_, F_, F_, F_, F_, F_, F_, F_, F_, F_, F_, F_, F_, F_, F_, F_, F_, F_, F_, F_] rfl rfl (any_of HT_.out (by kernel_rfl)) (fun _ _ _ h => h) (Or.inl ⟨by rfl, ?_⟩) ?_ ?_
    rotate_left
    ·intro w'
     go_simp
     with_reducible rfl
    rotate_left
    ·simp only [Act.put, la_, lz_, ls_, i64_w, i32_w]
     rfl
    refine pure_ (i := 5) (N := some 45) (v := ?_) (a' := ?_) #[T_, T_, T_, T_, T_, T_, F_, F_, F_, F_, F_, F_, F_, F_, F_, F_, F_, F_, F_, F_, F_, F_, F_, F_, F_, F_, F_, F_, F_] rfl rfl (any_of HT_.out (by kernel_rfl)) (fun _ _ _ h => h) (Or.inl ⟨by rfl, ?_⟩) ?_ ?_
    rotate_left
    ·intro w'
     go_simp
     with_reducible rfl
    rotate_left
    ·simp only [Act.put, la_, lz_, ls_, i64_w, i32_w]
     rfl
    refine pure_ (i := 8) (N := some 48) (v := ?_) (a' := ?_) #[T_, T_, T_, T_, T_, T_, F_, F_, T_, F_, F_, F_, F_, F_, F_, F_, F_, F_, F_, F_, F_, F_, F_, F_, F_, F_, F_, F_, F_] rfl rfl (any_of HT_.out (by kernel_rfl)) (fun _ _ _ h => h) (Or.inl ⟨by rfl, ?_⟩) ?_ ?_
    rotate_left
    ·intro w'
     go_simp
     with_reducible rfl
    rotate_left
    ·simp only [Act.put, la_, lz_, ls_, i64_w, i32_w]
     rfl
    refine take_ (i := 6) (N := some 46) (v := ?_) (a' := ?_) #[T_, T_, T_, T_, T_, T_, T_, F_, T_, F_, F_, F_, F_, F_, F_, F_, F_, F_, F_, F_, F_, F_, F_, F_, F_, F_, F_, F_, F_] rfl rfl (take_ofW HT_.out HW_.out (by kernel_rfl)) (fun _ _ _ h => h) (Or.inl ⟨by rfl, ?_⟩) hHeld ?_ ?_
    rotate_left
    ·rintro w' ⟨s6680, s6681, s27320, s27321, s27322⟩
     go_simp
     with_reducible rfl
    rotate_left
    ·simp only [Act.put, la_, lz_, ls_, i64_w, i32_w]
     rfl
    refine pure_ (i := 7) (N := some 47) (v := ?_) (a' := ?_) #[T_, T_, T_, T_, T_, T_, T_, T_, T_, F_, F_, F_, F_, F_, F_, F_, F_, F_, F_, F_, F_, F_, F_, F_, F_, F_, F_, F_, F_] rfl rfl (any_of HT_.out (by kernel_rfl)) (fun _ _ _ h => h) (Or.inl ⟨by rfl, ?_⟩) ?_ ?_
    rotate_left
    ·intro w'
     go_simp
     with_reducible rfl
    rotate_left
    ·simp only [Act.put, la_, lz_, ls_, i64_w, i32_w]
     rfl
    refine take_ (i := 9) (N := some 49) (v := ?_) (a' := ?_) #[T_, T_, T_, T_, T_, T_, T_, T_, T_, T_, F_, F_, F_, F_, F_, F_, F_, F_, F_, F_, F_, F_, F_, F_, F_, F_, F_, F_, F_] rfl rfl (take_ofW HT_.out HW_.out (by kernel_rfl)) (fun _ _ _ h => h) (Or.inl ⟨by rfl, ?_⟩) hHeld ?_ ?_
    rotate_left
    ·rintro w' ⟨s6680, s6681, s27320, s27321, s27322⟩
     go_simp
     with_reducible rfl
    rotate_left
    ·simp only [Act.put, la_, lz_, ls_, i64_w, i32_w]
     rfl
    refine pure_ (i := 10) (N := some 50) (v := ?_) (a' := ?_) #[T_, T_, T_, T_, T_, T_, T_, T_, T_, T_, T_, F_, F_, F_, F_, F_, F_, F_, F_, F_, F_, F_, F_, F_, F_, F_, F_, F_, F_] rfl rfl (any_of HT_.out (by kernel_rfl)) (fun _ _ _ h => h) (Or.inl ⟨by rfl, ?_⟩) ?_ ?_
    rotate_left
    ·intro w'
     go_simp
     with_reducible rfl
    rotate_left
    ·simp only [Act.put, la_, lz_, ls_, i64_w, i32_w]
     rfl
    refine pure_ (i := 11) (N := some 51) (v := ?_) (a' := ?_) #[T_, T_, T_, T_, T_, T_, T_, T_, T_, T_, T_, T_, F_, F_, F_, F_, F_, F_, F_, F_, F_, F_, F_, F_, F_, F_, F_, F_, F_] rfl rfl (any_of HT_.out (by kernel_rfl)) (fun _ _ _ h => h) (Or.inl ⟨by rfl, ?_⟩) ?_ ?_
    rotate_left
    ·intro w'
     go_simp
     with_reducible rfl
    rotate_left
    ·simp only [Act.put, la_, lz_, ls_, i64_w, i32_w]
     rfl
    refine pure_ (i := 12) (N := some 52) (v := ?_) (a' := ?_) #[T_, T_, T_, T_, T_, T_, T_, T_, T_, T_, T_, T_, T_, F_, F_, F_, F_, F_, F_, F_, F_, F_, F_, F_, F_, F_, F_, F_, F_] rfl rfl (any_of HT_.out (by kernel_rfl)) (fun _ _ _ h => h) (Or.inl ⟨by rfl, ?_⟩) ?_ ?_
    rotate_left
    ·intro w'
     go_simp
     with_reducible rfl
    rotate_left
    ·simp only [Act.put, la_, lz_, ls_, i64_w, i32_w]
     rfl
    refine pure_ (i := 13) (N := some 53) (v := ?_) (a' := ?_) #[T_, T_, T_, T_, T_, T_, T_, T_, T_, T_, T_, T_, T_, T_, F_, F_, F_, F_, F_, F_, F_, F_, F_, F_, F_, F_, F_, F_, F_] rfl rfl (any_of HT_.out (by kernel_rfl)) (fun _ _ _ h => h) (Or.inl ⟨by rfl, ?_⟩) ?_ ?_
    rotate_left
    ·intro w'
     go_simp
     with_reducible rfl
    rotate_left
    ·simp only [Act.put, la_, lz_, ls_, i64_w, i32_w]
     rfl
    refine pure_ (i := 14) (N := some 54) (v := undef) (a' := ?_) #[T_, T_, T_, T_, T_, T_, T_, T_, T_, T_, T_, T_, T_, T_, T_, F_, F_, F_, F_, F_, F_, F_, F_, F_, F_, F_, F_, F_, F_] rfl rfl (any_of HT_.out (by kernel_rfl)) (fun _ _ _ h => h) (Or.inr ⟨by rfl, rfl⟩) ?_ ?_
    rotate_left
    ·simp only [Act.put, la_, lz_, ls_, i64_w, i32_w]
     rfl
    refine pure_ (i := 15) (N := some 55) (v := undef) (a' := ?_) #[T_, T_, T_, T_, T_, T_, T_, T_, T_, T_, T_, T_, T_, T_, T_, T_, F_, F_, F_, F_, F_, F_, F_, F_, F_, F_, F_, F_, F_] rfl rfl (any_of HT_.out (by kernel_rfl)) (fun _ _ _ h => h) (Or.inr ⟨by rfl, rfl⟩) ?_ ?_
    rotate_left
    ·simp only [Act.put, la_, lz_, ls_, i64_w, i32_w]
     rfl
    refine pure_ (i := 16) (N := some 56) (v := undef) (a' := ?_) #[T_, T_, T_, T_, T_, T_, T_, T_, T_, T_, T_, T_, T_, T_, T_, T_, T_, F_, F_, F_, F_, F_, F_, F_, F_, F_, F_, F_, F_] rfl rfl (any_of HT_.out (by kernel_rfl)) (fun _ _ _ h => h) (Or.inr ⟨by rfl, rfl⟩) ?_ ?_
    rotate_left
    ·simp only [Act.put, la_, lz_, ls_, i64_w, i32_w]
     rfl
    refine pure_ (i := 17) (N := some 57) (v := undef) (a' := ?_) #[T_, T_, T_, T_, T_, T_, T_, T_, T_, T_, T_, T_, T_, T_, T_, T_, T_, T_, F_, F_, F_, F_, F_, F_, F_, F_, F_, F_, F_] rfl rfl (any_of HT_.out (by kernel_rfl)) (fun _ _ _ h => h) (Or.inr ⟨by rfl, rfl⟩) ?_ ?_
    rotate_left
    ·simp only [Act.put, la_, lz_, ls_, i64_w, i32_w]
     rfl
    refine pure_ (i := 18) (N := some 58) (v := undef) (a' := ?_) #[T_, T_, T_, T_, T_, T_, T_, T_, T_, T_, T_, T_, T_, T_, T_, T_, T_, T_, T_, F_, F_, F_, F_, F_, F_, F_, F_, F_, F_] rfl rfl (any_of HT_.out (by kernel_rfl)) (fun _ _ _ h => h) (Or.inr ⟨by rfl, rfl⟩) ?_ ?_
    rotate_left
    ·simp only [Act.put, la_, lz_, ls_, i64_w, i32_w]
     rfl
    refine pure_ (i := 19) (N := some 59) (v := undef) (a' := ?_) #[T_, T_, T_, T_, T_, T_, T_, T_, T_, T_, T_, T_, T_, T_, T_, T_, T_, T_, T_, T_, F_, F_, F_, F_, F_, F_, F_, F_, F_] rfl rfl (any_of HT_.out (by kernel_rfl)) (fun _ _ _ h => h) (Or.inr ⟨by rfl, rfl⟩) ?_ ?_
    rotate_left
    ·simp only [Act.put, la_, lz_, ls_, i64_w, i32_w]
     rfl
    refine pure_ (i := 20) (N := some 60) (v := undef) (a' := ?_) #[T_, T_, T_, T_, T_, T_, T_, T_, T_, T_, T_, T_, T_, T_, T_, T_, T_, T_, T_, T_, T_, F_, F_, F_, F_, F_, F_, F_, F_] rfl rfl (any_of HT_.out (by kernel_rfl)) (fun _ _ _ h => h) (Or.inr ⟨by rfl, rfl⟩) ?_ ?_
    rotate_left
    ·simp only [Act.put, la_, lz_, ls_, i64_w, i32_w]
     rfl
    refine pure_ (i := 21) (N := some 61) (v := undef) (a' := ?_) #[T_, T_, T_, T_, T_, T_, T_, T_, T_, T_, T_, T_, T_, T_, T_, T_, T_, T_, T_, T_, T_, T_, F_, F_, F_, F_, F_, F_, F_] rfl rfl (any_of HT_.out (by kernel_rfl)) (fun _ _ _ h => h) (Or.inr ⟨by rfl, rfl⟩) ?_ ?_
    rotate_left
    ·simp only [Act.put, la_, lz_, ls_, i64_w, i32_w]
     rfl
    refine pure_ (i := 22) (N := some 62) (v := undef) (a' := ?_) #[T_, T_, T_, T_, T_, T_, T_, T_, T_, T_, T_, T_, T_, T_, T_, T_, T_, T_, T_, T_, T_, T_, T_, F_, F_, F_, F_, F_, F_] rfl rfl (any_of HT_.out (by kernel_rfl)) (fun _ _ _ h => h) (Or.inr ⟨by rfl, rfl⟩) ?_ ?_
    rotate_left
    ·simp only [Act.put, la_, lz_, ls_, i64_w, i32_w]
     rfl
    refine pure_ (i := 23) (N := some 63) (v := undef) (a' := ?_) #[T_, T_, T_, T_, T_, T_, T_, T_, T_, T_, T_, T_, T_, T_, T_, T_, T_, T_, T_, T_, T_, T_, T_, T_, F_, F_, F_, F_, F_] rfl rfl (any_of HT_.out (by kernel_rfl)) (fun _ _ _ h => h) (Or.inr ⟨by rfl, rfl⟩) ?_ ?_
    rotate_left
    ·simp only [Act.put, la_, lz_, ls_, i64_w, i32_w]
     rfl
    refine pure_ (i := 24) (N := some 64) (v := undef) (a' := ?_) #[T_, T_, T_, T_, T_, T_, T_, T_, T_, T_, T_, T_, T_, T_, T_, T_, T_, T_, T_, T_, T_, T_, T_, T_, T_, F_, F_, F_, F_] rfl rfl (any_of HT_.out (by kernel_rfl)) (fun _ _ _ h => h) (Or.inr ⟨by rfl, rfl⟩) ?_ ?_
    rotate_left
    ·simp only [Act.put, la_, lz_, ls_, i64_w, i32_w]
     rfl
    refine pure_ (i := 25) (N := some 65) (v := undef) (a' := ?_) #[T_, T_, T_, T_, T_, T_, T_, T_, T_, T_, T_, T_, T_, T_, T_, T_, T_, T_, T_, T_, T_, T_, T_, T_, T_, T_, F_, F_, F_] rfl rfl (any_of HT_.out (by kernel_rfl)) (fun _ _ _ h => h) (Or.inr ⟨by rfl, rfl⟩) ?_ ?_
    rotate_left
    ·simp only [Act.put, la_, lz_, ls_, i64_w, i32_w]
     rfl
    refine pure_ (i := 26) (N := some 66) (v := undef) (a' := ?_) #[T_, T_, T_, T_, T_, T_, T_, T_, T_, T_, T_, T_, T_, T_, T_, T_, T_, T_, T_, T_, T_, T_, T_, T_, T_, T_, T_, F_, F_] rfl rfl (any_of HT_.out (by kernel_rfl)) (fun _ _ _ h => h) (Or.inr ⟨by rfl, rfl⟩) ?_ ?_
    rotate_left
    ·simp only [Act.put, la_, lz_, ls_, i64_w, i32_w]
     rfl
    refine pure_ (i := 27) (N := some 67) (v := undef) (a' := ?_) #[T_, T_, T_, T_, T_, T_, T_, T_, T_, T_, T_, T_, T_, T_, T_, T_, T_, T_, T_, T_, T_, T_, T_, T_, T_, T_, T_, T_, F_] rfl rfl (any_of HT_.out (by kernel_rfl)) (fun _ _ _ h => h) (Or.inr ⟨by rfl, rfl⟩) ?_ ?_
    rotate_left
    ·simp only [Act.put, la_, lz_, ls_, i64_w, i32_w]
     rfl
    refine pure_ (i := 28) (N := some 68) (v := ?_) (a' := ?_) #[T_, T_, T_, T_, T_, T_, T_, T_, T_, T_, T_, T_, T_, T_, T_, T_, T_, T_, T_, T_, T_, T_, T_, T_, T_, T_, T_, T_, T_] rfl rfl (any_of HT_.out (by kernel_rfl)) (fun _ _ _ h => h) (Or.inl ⟨by rfl, ?_⟩) ?_ ?_
    rotate_left
    ·intro w'
     go_simp
     with_reducible rfl
    rotate_left
    ·simp only [Act.put, la_, lz_, ls_, i64_w, i32_w]
     rfl
    refine done_ (done_of HT_.out (by kernel_rfl)) ?_
    have hnb2130241253 := NB241_253.out
    have hnc2130241253 := NB253_241.out
    obtain ⟨_, _, _, _, _, _, _, _⟩ := cells4_ BK241.out
    try go_wp2
    refine bodyPost_ret (results_ct rfl _ _ gb241 40 #[.int .i64 0, .int .i64 0, .int .i64 0, .slice none 0 0] (0, 0) _ rfl (by (with_reducible repeat (first | refine bn_ ?_ _ | refine bw_ ?_ | refine ba_ ?_ _)); refine blk_put (cs := #[.int .i64 0, .int .i64 0, .int .i64 0, .slice none 0 0]) ?_ 3 _ rfl; (with_reducible repeat (first | refine bn_ ?_ _ | refine bw_ ?_ | refine ba_ ?_ _)); refine blk_put (cs := #[.int .i64 0, .int .i64 0, .int .i64 0, .slice none 0 0]) ?_ 2 _ rfl; (with_reducible repeat (first | refine bn_ ?_ _ | refine bw_ ?_ | refine ba_ ?_ _)); refine blk_put (cs := #[.int .i64 0, .int .i64 0, .int .i64 0, .slice none 0 0]) ?_ 1 _ rfl; (with_reducible repeat (first | refine bn_ ?_ _ | refine bw_ ?_ | refine ba_ ?_ _)); refine blk_put (cs := #[.int .i64 0, .int .i64 0, .int .i64 0, .slice none 0 0]) ?_ 0 _ rfl; (with_reducible repeat (first | refine bn_ ?_ _ | refine bw_ ?_ | refine ba_ ?_ _)); exact BK241.out) Try.underlying40 rfl (by kernel_rfl)) rfl ?_
    exact ⟨_, by first | rfl | (simp [errW_none, errW_some] <;> rfl) | (simp [*, errW_none, errW_some] <;> rfl), by first | exact Kd.R_nil _ _ _ _ _ | exact Kd.N_nil _ _ _ _ _ | exact Kd.V_nil _ _ _ _ _ | exact Kd.Q_nil _ _ _ _ _ | exact Kd.S_nil _ _ _ _ _, us_ HB.out⟩
   all_goals
    obtain ⟨A4321, hcut4321, hA4321, hC4321⟩ := print_mid_of (P := Try.prog) (Value.int .u8) 0 29 5 .i64 .i64 Try.underlying29 hi4320 hsz4321 (some ad3200) c2 l2 3 (ji22) (by omega) (by first | omega | exact of_decide_eq_true (by first | (with_reducible assumption) | assumption)) (of_decide_eq_true (by first | (with_reducible assumption) | assumption)) HC2.out
    have HR4400 := mk_ (Kd.C_of_reads (h1 := fun _ => rfl) (hA4321 _ (Kd.reads_of_C HR2.out)))
    have HC4400 := mk_ hC4321
    clear hA4321 hC4321 hi4320 hsz4321
    refine start_ (n := 19) (S := fun w' => w'.cell? ad3200 = some (.int .u8 (rd l2 0)) ∧ w'.cell? ⟨ad3200.block, ad3200.off + 1, none⟩ = some (.int .u8 (rd l2 1))) (ds := []) #[F_, F_, F_, F_, F_, F_, F_, F_, F_, F_, F_, F_, F_, F_, F_, F_, F_, F_, F_] (by kernel_rfl) rfl rfl ⟨((HB.out.cell (lc_ w _ hw244_0)).trans hw244_0), ((HB.out.cell (lc_ w _ hw245_0)).trans hw245_0)⟩ (fun hHeld => ?_); refine with_tabW spec_MailFrom.tab3 spec_MailFrom.bits3 (fun HT_ HW_ => ?_)
    generalize wc.drew = w24120 at BK241 HB HR4400 hx244_0 hx245_0 hHeld ⊢
    refine pure_ (i := 0) (N := some 23) (v := ?_) (a' := ?_) #[T_, F_, F_, F_, F_, F_, F_, F_, F_, F_, F_, F_, F_, F_, F_, F_, F_, F_, F_] rfl rfl (any_of HT_.out (by kernel_rfl)) (fun _ _ _ h => h) (Or.inl ⟨by rfl, ?_⟩) ?_ ?_
    rotate_left
    ·intro w'
     go_simp
     with_reducible rfl
    rotate_left
    ·simp only [Act.put, la_, lz_, ls_, i64_w, i32_w]
     rfl
    refine pure_ (i := 1) (N := some 24) (v := ?_) (a' := ?_) #[T_, T_, F_, F_, F_, F_, F_, F_, F_, F_, F_, F_, F_, F_, F_, F_, F_, F_, F_] rfl rfl (any_of HT_.out (by kernel_rfl)) (fun _ _ _ h => h) (Or.inl ⟨by rfl, ?_⟩) ?_ ?_
    rotate_left
    ·intro w'
     go_simp
     with_reducible rfl
    rotate_left
    ·simp only [Act.put, la_, lz_, ls_, i64_w, i32_w]
     rfl
    refine pure_ (i := 2) (N := some 25) (v := ?_) (a' := ?_) #[T_, T_, T_, F_, F_, F_, F_, F_, F_, F_, F_, F_, F_, F_, F_, F_, F_, F_, F_] rfl rfl (any_of HT_.out (by kernel_rfl)) (fun _ _ _ h => h) (Or.inl ⟨by rfl, ?_⟩) ?_ ?_
    rotate_left
    ·intro w'
     go_simp
     with_reducible rfl
    rotate_left
    ·simp only [Act.put, la_, lz_, ls_, i64_w, i32_w]
     rfl
    refine pure_ (i := 5) (N := some 28) (v := ?_) (a' := ?_) #[T_, T_, T_, F_, F_, T_, F_, F_, F_, F_, F_, F_, F_, F_, F_, F_, F_, F_, F_] rfl rfl (any_of HT_.out (by kernel_rfl)) (fun _ _ _ h => h) (Or.inl ⟨by rfl, ?_⟩) ?_ ?_
    rotate_left
    ·intro w'
     go_simp
     with_reducible rfl
    rotate_left
    ·simp only [Act.put, la_, lz_, ls_, i64_w, i32_w]
     rfl
    refine pure_ (i := 6) (N := some 29) (v := ?_) (a' := ?_) #[T_, T_, T_, F_, F_, T_, T_, F_, F_, F_, F_, F_, F_, F_, F_, F_, F_, F_, F_] rfl rfl (any_of HT_.out (by kernel_rfl)) (fun _ _ _ h => h) (Or.inl ⟨by rfl, ?_⟩) ?_ ?_
    rotate_left
    ·intro w'
     go_simp
     with_reducible rfl
    rotate_left
    ·simp only [Act.put, la_, lz_, ls_, i64_w, i32_w]
     rfl
    refine pure_ (i := 10) (N := some 33) (v := ?_) (a' := ?_) #[T_, T_, T_, F_, F_, T_, T_, F_, F_, F_, T_, F_, F_, F_, F_, F_, F_, F_, F_] rfl rfl (any_of HT_.out (by kernel_rfl)) (fun _ _ _ h => h) (Or.inl ⟨by rfl, ?_⟩) ?_ ?_
    rotate_left
    ·intro w'
     go_simp
     with_reducible rfl
    rotate_left
    ·simp only [Act.put, la_, lz_, ls_, i64_w, i32_w]
     rfl
    refine pure_ (i := 11) (N := some 34) (v := ?_) (a' := ?_) #[T_, T_, T_, F_, F_, T_, T_, F_, F_, F_, T_, T_, F_, F_, F_, F_, F_, F_, F_] rfl rfl (any_of HT_.out (by kernel_rfl)) (fun _ _ _ h => h) (Or.inl ⟨by rfl, ?_⟩) ?_ ?_
    rotate_left
    ·intro w'
     go_simp
     with_reducible rfl
    rotate_left
    ·simp only [Act.put, la_, lz_, ls_, i64_w, i32_w]
     rfl
    refine pure_ (i := 12) (N := some 35) (v := ?_) (a' := ?_) #[T_, T_, T_, F_, F_, T_, T_, F_, F_, F_, T_, T_, T_, F_, F_, F_, F_, F_, F_] rfl rfl (any_of HT_.out (by kernel_rfl)) (fun _ _ _ h => h) (Or.inl ⟨by rfl, ?_⟩) ?_ ?_
    rotate_left
    ·intro w'
     go_simp
     with_reducible rfl
    rotate_left
    ·simp only [Act.put, la_, lz_, ls_, i64_w, i32_w]
     rfl
    refine pure_ (i := 13) (N := some 36) (v := ?_) (a' := ?_) #[T_, T_, T_, F_, F_, T_, T_, F_, F_, F_, T_, T_, T_, T_, F_, F_, F_, F_, F_] rfl rfl (any_of HT_.out (by kernel_rfl)) (fun _ _ _ h => h) (Or.inl ⟨by rfl, ?_⟩) ?_ ?_
    rotate_left
    ·intro w'
     go_simp
     with_reducible rfl
    rotate_left
    ·simp only [Act.put, la_, lz_, ls_, i64_w, i32_w]
     rfl
    refine pure_ (i := 14) (N := some 37) (v := ?_) (a' := ?_) #[T_, T_, T_, F_, F_, T_, T_, F_, F_, F_, T_, T_, T_, T_, T_, F_, F_, F_, F_] rfl rfl (any_of HT_.out (by kernel_rfl)) (fun _ _ _ h => h) (Or.inl ⟨by rfl, ?_⟩) ?_ ?_
    rotate_left
    ·intro w'
     go_simp
     with_reducible rfl
    rotate_left
    ·simp only [Act.put, la_, lz_, ls_, i64_w, i32_w]
     rfl
    refine take_ (i := 3) (N := some 26) (v := ?_) (a' := ?_) #[T_, T_, T_, T_, F_, T_, T_, F_, F_, F_, T_, T_, T_, T_, T_, F_, F_, F_, F_] rfl rfl (take_ofW HT_.out HW_.out (by kernel_rfl)) (fun _ _ _ h => h) (Or.inl ⟨by rfl, ?_⟩) hHeld ?_ ?_
    rotate_left
    ·rintro w' ⟨s6680, s6681⟩
     go_simp
     with_reducible rfl
    rotate_left
    ·simp only [Act.put, la_, lz_, ls_, i64_w, i32_w]
     rfl
    refine pure_ (i := 4) (N := some 27) (v := ?_) (a' := ?_) #[T_, T_, T_, T_, T_, T_, T_, F_, F_, F_, T_, T_, T_, T_, T_, F_, F_, F_, F_] rfl rfl (any_of HT_.out (by kernel_rfl)) (fun _ _ _ h => h) (Or.inl ⟨by rfl, ?_⟩) ?_ ?_
    rotate_left
    ·intro w'
     go_simp
     with_reducible rfl
    rotate_left
    ·simp only [Act.put, la_, lz_, ls_, i64_w, i32_w]
     rfl
    refine take_ (i := 7) (N := some 30) (v := ?_) (a' := ?_) #[T_, T_, T_, T_, T_, T_, T_, T_, F_, F_, T_, T_, T_, T_, T_, F_, F_, F_, F_] rfl rfl (take_ofW HT_.out HW_.out (by kernel_rfl)) (fun _ _ _ h => h) (Or.inl ⟨by rfl, ?_⟩) hHeld ?_ ?_
    rotate_left
    ·rintro w' ⟨s6680, s6681⟩
     go_simp
     with_reducible rfl
    rotate_left
    ·simp only [Act.put, la_, lz_, ls_, i64_w, i32_w]
     rfl
    refine pure_ (i := 8) (N := some 31) (v := ?_) (a' := ?_) #[T_, T_, T_, T_, T_, T_, T_, T_, T_, F_, T_, T_, T_, T_, T_, F_, F_, F_, F_] rfl rfl (any_of HT_.out (by kernel_rfl)) (fun _ _ _ h => h) (Or.inl ⟨by rfl, ?_⟩) ?_ ?_
    rotate_left
    ·intro w'
     go_simp
     with_reducible rfl
    rotate_left
    ·simp only [Act.put, la_, lz_, ls_, i64_w, i32_w]
     rfl
    refine join_ (σ := Value × Value × Nat) 1 #[T_, T_, T_, T_, T_, T_, T_, T_, T_, T_, T_, T_, T_, T_, T_, T_, T_, T_, F_] (fun s_ => [(32, s_.1), (38, s_.2.1), (8, .pointer (some ⟨s_.2.2, 0, none⟩)), (39, .agg #[.int .i64 a0, .int .i64 (wrap64 (rd l2 0)), .int .i64 (wrap64 (rd l2 1)), s_.2.1])]) (fun s_ w' => (w'.cell? ad3200 = some (.int .u8 (rd l2 0)) ∧ w'.cell? ⟨ad3200.block, ad3200.off + 1, none⟩ = some (.int .u8 (rd l2 1))) ∧ (Kd.R (Kd.int .u8) 5 w' w.heap.size (fun _ => True) s_.2.1 y250) ∧ (w'.heap[gb241]? = some (.cells #[.int .i64 0, .int .i64 0, .int .i64 0, .slice none 0 0] 40 (0, 0))) ∧ (w'.heap[s_.2.2]? = some (.cells #[.int .i64 0, .int .i64 0, .int .i64 0, .slice none 0 0] 40 (0, 0))) ∧ (w.heap.size ≤ s_.2.2) ∧ (w.heap.size ≤ s_.2.2) ∧ (gb241 ≠ s_.2.2) ∧ (s_.2.2 ≠ gb241) ∧ (Below w.heap.size w w')) ?_ ?_
    rotate_left
    ·intro hCont
     refine two_ (i := 9) (j := 17) (Ni := some 32) (Nj := some 8) #[T_, T_, T_, T_, T_, T_, T_, T_, T_, T_, T_, T_, T_, T_, T_, F_, F_, F_, F_] #[T_, T_, T_, T_, T_, T_, T_, T_, T_, F_, T_, T_, T_, T_, T_, F_, F_, T_, F_] rfl rfl rfl rfl (two_of HT_.out (by kernel_rfl)) (by decide) (by decide) (fun K hK => ?_) (fun K hK => ?_)
     ·skip
      refine Kd.R_lit_step (Kd.int .u8) _ 5 ?hg (N := 32) ?hd (xs := ([] : List Int)) (inner := []) (ok := fun _ => True) (okp := fun _ => True) ?hr ?hp (fun _ hk => hk) trivial (Below.refl _ _) (Nat.le_refl _) (by simp) ?_; (case hd => rfl); (case hg => rfl); (case hr => first | (go_simp; done) | (go_simp; rfl)); (case hp => exact (Reps.none _ _))
      intro v24200 w24201 ho24202 hb hg_ hnew_
      clear hg_ hnew_
      (first | rw [← Ny246.out] at ho24202 | (simp only [Int.reduceToNat] at ho24202; rw [← Ny246.out] at ho24202))
      have n0_ := mk_ (Kd.R_lower ho24202 (below_size (us_ HB.out)))
      have n1_ := mk_ (blk_below (u_ BK241.out) hb)
      have n2_ := mk_ (below_step (us_ HB.out) hb)
      clear BK241
      clear HB
      have HO248 := n0_
      have BK241 := n1_
      have HB := n2_
      clear n0_ n1_ n2_
      clear hb ho24202
      refine hK.out _ _ ⟨((HB.out.cell (lc_ w _ hw244_0)).trans hw244_0), ((HB.out.cell (lc_ w _ hw245_0)).trans hw245_0)⟩ (fun hHeld => ?_)
      clear hK K
      refine norm_ (a' := ?_) ?_ ?_
      rotate_left
      ·show Act.put _ (some 32) _ = _
       simp only [Act.put, la_, lz_, ls_, i64_w, i32_w]
       rfl
      refine two_ (i := 15) (j := 17) (Ni := some 38) (Nj := some 8) #[T_, T_, T_, T_, T_, T_, T_, T_, T_, T_, T_, T_, T_, T_, T_, T_, F_, F_, F_] #[T_, T_, T_, T_, T_, T_, T_, T_, T_, T_, T_, T_, T_, T_, T_, F_, F_, T_, F_] rfl rfl rfl rfl (two_of HT_.out (by kernel_rfl)) (by decide) (by decide) (fun K hK => ?_) (fun K hK => ?_)
      ·skip
       refine Kd.R_append_rows_step (Kd.int .u8) (w0 := w) w.heap.size (by rfl) (.tmp 32) (.tmp 37) 29 5 (.int .u8 0) 1 rfl Try.underlying29 info5 rfl (by decide) (by omega) v24200 y246 ((l2.take ((ji22) : Int).toNat).drop 3) _ _ _ (fun _ => True) (fun _ => False) rfl rfl ?aO ?aR (fun _ _ h => h) (fun _ h => h.elim) ?aF ?aB ?aS ?aL ?_
       (case aR => first | (have e_ := (Kd.C_below HR4400.out HB.out); rw [show ((l2.take ((ji22) : Int).toNat).drop 3).length = ((ji22).toNat - 3) from (by rw [List.length_drop, List.length_take]; have h_ : ((ji22) : Int) ≤ (l2.length : Int) := of_decide_eq_true (by first | (with_reducible assumption) | assumption); omega)] at e_; exact e_) | (rw [← show ((l2.take ((ji22) : Int).toNat).drop 3).length = ((ji22).toNat - 3) from (by rw [List.length_drop, List.length_take]; have h_ : ((ji22) : Int) ≤ (l2.length : Int) := of_decide_eq_true (by first | (with_reducible assumption) | assumption); omega)]; repeat (first | exact (Kd.C_below HR4400.out HB.out) | (with_reducible refine Kd.C_alloc ?_ _) | (with_reducible refine Kd.C_drewN ?_ _) | (with_reducible refine Kd.C_drew ?_))) | (repeat (first | exact (Kd.C_below HR4400.out HB.out) | (with_reducible refine Kd.C_alloc ?_ _) | (with_reducible refine Kd.C_drewN ?_ _) | (with_reducible refine Kd.C_drew ?_))))
       (case aB => exact (us_ HB.out))
       (case aF => exact (fun _ _ => trivial))
       (case aO => exact (Kd.ur_ HO248.out))
       (case aS => exact (below_size (us_ HB.out)))
       (case aL => have := LMc16.out; have hlx_ := (show ((l2.take ((ji22) : Int).toNat).drop 3).length = ((ji22).toNat - 3) from (by rw [List.length_drop, List.length_take]; have h_ : ((ji22) : Int) ≤ (l2.length : Int) := of_decide_eq_true (by first | (with_reducible assumption) | assumption); omega)); omega)
       intro v24203 w24204 ho hb hg hat
       rw [← Ny250.out] at ho
       have n0_ := mk_ (blk_grown (g := gb241) (o := .cells #[.int .i64 0, .int .i64 0, .int .i64 0, .slice none 0 0] 40 (0, 0)) (u_ BK241.out) hg (Kd.R_ne HO248.out BK241.out (by decide)))
       have n1_ := mk_ (hb)
       have n2_ := mk_ (ho)
       clear BK241
       clear HB
       clear HO248
       have BK241 := n0_
       have HB := n1_
       have HO252 := n2_
       clear n0_ n1_ n2_
       clear ho hb hg hat
       obtain ⟨Ao5800252, co5800252, eo5800252⟩ := Kd.R_slice HO252.out
       (first | subst eo5800252 | (injection eo5800252 with f1_ f2_ f3_; have f4_ := f1_.symm; have f5_ := f3_.symm; clear f1_ f2_ f3_; subst f4_; subst f5_))
       refine hK.out _ _ ⟨((HB.out.cell (lc_ w _ hw244_0)).trans hw244_0), ((HB.out.cell (lc_ w _ hw245_0)).trans hw245_0)⟩ (fun hHeld => ?_)
       clear hK K
       refine norm_ (a' := ?_) ?_ ?_
       rotate_left
       ·show Act.put _ (some 38) _ = _
        simp only [Act.put, la_, lz_, ls_, i64_w, i32_w]
        rfl
       refine pure_ (i := 16) (N := some 39) (v := ?_) (a' := ?_) #[T_, T_, T_, T_, T_, T_, T_, T_, T_, T_, T_, T_, T_, T_, T_, T_, T_, F_, F_] rfl rfl (any_of HT_.out (by kernel_rfl)) (fun _ _ _ h => h) (Or.inl ⟨by rfl, ?_⟩) ?_ ?_
       rotate_left
       ·intro w'
        go_simp
        with_reducible rfl
       rotate_left
       ·simp only [Act.put, la_, lz_, ls_, i64_w, i32_w]
        rfl
       refine one_ (i := 17) (N := some 8) #[T_, T_, T_, T_, T_, T_, T_, T_, T_, T_, T_, T_, T_, T_, T_, T_, T_, T_, F_] rfl rfl (one_of HT_.out (by kernel_rfl)) (by decide) (fun K hK => ?_)
       refine box_step ?hg (N := 8) ?hd (cs := #[.int .i64 0, .int .i64 0, .int .i64 0, .slice none 0 0]) (t := 40) ?hr ?_; (case hd => rfl); (case hg => rfl); (case hr => first | (go_simp; done) | (go_simp; rfl))
       intro gb24205 hg w5800252 hbox hb
       have n0_ := mk_ (Kd.R_below (Kd.ur_ HO252.out) hb)
       have n1_ := mk_ (blk_below (u_ BK241.out) hb)
       have n2_ := mk_ (below_step (us_ HB.out) hb)
       have n3_ := mk_ (hbox)
       have n4_ := mk_ ((by rw [hg]; exact (below_size (us_ HB.out)) : w.heap.size ≤ gb24205))
       have n5_ := mk_ ((by rw [hg]; exact (below_size (us_ HB.out)) : w.heap.size ≤ gb24205))
       have n6_ := mk_ ((by rw [hg]; exact Nat.ne_of_lt (blk_lt (u_ BK241.out)) : gb241 ≠ gb24205))
       have n7_ := mk_ ((by rw [hg]; exact Nat.ne_of_gt (blk_lt (u_ BK241.out)) : gb24205 ≠ gb241))
       clear HO252
       clear BK241
       clear HB
       have HO252 := n0_
       have BK241 := n1_
       have HB := n2_
       have BK253 := n3_
       have GW253 := n4_
       have GE253 := ge_ n5_.out
       have NB241_253 := nq_ n6_.out
       have NB253_241 := nq_ n7_.out
       clear n0_ n1_ n2_ n3_ n4_ n5_ n6_ n7_
       clear hb hbox hg
       refine hK.out _ _ ⟨((HB.out.cell (lc_ w _ hw244_0)).trans hw244_0), ((HB.out.cell (lc_ w _ hw245_0)).trans hw245_0)⟩ (fun hHeld => ?_)
       clear hK K
       refine norm_ (a' := ?_) ?_ ?_
       rotate_left
       ·show Act.put _ (some 8) _ = _
        simp only [Act.put, la_, lz_, ls_, i64_w, i32_w]
        rfl
       exact norm_ (by simp only [putAll, Act.put, la_, lz_, ls_]) (hCont (v24200, .slice Ao5800252 y250.length co5800252, gb24205) _ ⟨hHeld, (Kd.ur_ HO252.out), (u_ BK241.out), (u_ BK253.out), GW253.out, GE253.out, NB241_253.out, NB253_241.out, (us_ HB.out)⟩)
      skip
      refine box_step ?hg (N := 8) ?hd (cs := #[.int .i64 0, .int .i64 0, .int .i64 0, .slice none 0 0]) (t := 40) ?hr ?_; (case hd => rfl); (case hg => rfl); (case hr => first | (go_simp; done) | (go_simp; rfl))
      intro gb24205 hg w24204 hbox hb
      have n0_ := mk_ (Kd.R_below (Kd.ur_ HO248.out) hb)
      have n1_ := mk_ (blk_below (u_ BK241.out) hb)
      have n2_ := mk_ (below_step (us_ HB.out) hb)
      have n3_ := mk_ (hbox)
      have n4_ := mk_ ((by rw [hg]; exact (below_size (us_ HB.out)) : w.heap.size ≤ gb24205))
      have n5_ := mk_ ((by rw [hg]; exact (below_size (us_ HB.out)) : w.heap.size ≤ gb24205))
      have n6_ := mk_ ((by rw [hg]; exact Nat.ne_of_lt (blk_lt (u_ BK241.out)) : gb241 ≠ gb24205))
      have n7_ := mk_ ((by rw [hg]; exact Nat.ne_of_gt (blk_lt (u_ BK241.out)) : gb24205 ≠ gb241))
      clear HO248
      clear BK241
      clear HB
      have HO248 := n0_
      have BK241 := n1_
      have HB := n2_
      have BK253 := n3_
      have GW253 := n4_
      have GE253 := ge_ n5_.out
      have NB241_253 := nq_ n6_.out
      have NB253_241 := nq_ n7_.out
      clear n0_ n1_ n2_ n3_ n4_ n5_ n6_ n7_
      clear hb hbox hg
      refine hK.out _ _ ⟨((HB.out.cell (lc_ w _ hw244_0)).trans hw244_0), ((HB.out.cell (lc_ w _ hw245_0)).trans hw245_0)⟩ (fun hHeld => ?_)
      clear hK K
      refine norm_ (a' := ?_) ?_ ?_
      rotate_left
      ·show Act.put _ (some 8) _ = _
       simp only [Act.put, la_, lz_, ls_, i64_w, i32_w]
       rfl
      refine one_ (i := 15) (N := some 38) #[T_, T_, T_, T_, T_, T_, T_, T_, T_, T_, T_, T_, T_, T_, T_, T_, F_, T_, F_] rfl rfl (one_of HT_.out (by kernel_rfl)) (by decide) (fun K hK => ?_)
      refine Kd.R_append_rows_step (Kd.int .u8) (w0 := w) w.heap.size (by rfl) (.tmp 32) (.tmp 37) 29 5 (.int .u8 0) 1 rfl Try.underlying29 info5 rfl (by decide) (by omega) v24200 y246 ((l2.take ((ji22) : Int).toNat).drop 3) _ _ _ (fun _ => True) (fun _ => False) rfl rfl ?aO ?aR (fun _ _ h => h) (fun _ h => h.elim) ?aF ?aB ?aS ?aL ?_
      (case aR => first | (have e_ := (Kd.C_below HR4400.out HB.out); rw [show ((l2.take ((ji22) : Int).toNat).drop 3).length = ((ji22).toNat - 3) from (by rw [List.length_drop, List.length_take]; have h_ : ((ji22) : Int) ≤ (l2.length : Int) := of_decide_eq_true (by first | (with_reducible assumption) | assumption); omega)] at e_; exact e_) | (rw [← show ((l2.take ((ji22) : Int).toNat).drop 3).length = ((ji22).toNat - 3) from (by rw [List.length_drop, List.length_take]; have h_ : ((ji22) : Int) ≤ (l2.length : Int) := of_decide_eq_true (by first | (with_reducible assumption) | assumption); omega)]; repeat (first | exact (Kd.C_below HR4400.out HB.out) | (with_reducible refine Kd.C_alloc ?_ _) | (with_reducible refine Kd.C_drewN ?_ _) | (with_reducible refine Kd.C_drew ?_))) | (repeat (first | exact (Kd.C_below HR4400.out HB.out) | (with_reducible refine Kd.C_alloc ?_ _) | (with_reducible refine Kd.C_drewN ?_ _) | (with_reducible refine Kd.C_drew ?_))))
      (case aB => exact (us_ HB.out))
      (case aF => exact (fun _ _ => trivial))
      (case aO => exact (Kd.ur_ HO248.out))
      (case aS => exact (below_size (us_ HB.out)))
      (case aL => have := LMc16.out; have hlx_ := (show ((l2.take ((ji22) : Int).toNat).drop 3).length = ((ji22).toNat - 3) from (by rw [List.length_drop, List.length_take]; have h_ : ((ji22) : Int) ≤ (l2.length : Int) := of_decide_eq_true (by first | (with_reducible assumption) | assumption); omega)); omega)
      intro v24203 w5800252 ho hb hg hat
      rw [← Ny250.out] at ho
      have n0_ := mk_ (blk_grown (g := gb241) (o := .cells #[.int .i64 0, .int .i64 0, .int .i64 0, .slice none 0 0] 40 (0, 0)) (u_ BK241.out) hg (Kd.R_ne HO248.out BK241.out (by decide)))
      have n1_ := mk_ (blk_grown (g := gb24205) (o := .cells #[.int .i64 0, .int .i64 0, .int .i64 0, .slice none 0 0] 40 (0, 0)) (u_ BK253.out) hg (Kd.R_ne HO248.out BK253.out (by decide)))
      have n2_ := mk_ (hb)
      have n3_ := mk_ (ho)
      clear BK241
      clear BK253
      clear HB
      clear HO248
      have BK241 := n0_
      have BK253 := n1_
      have HB := n2_
      have HO252 := n3_
      clear n0_ n1_ n2_ n3_
      clear ho hb hg hat
      obtain ⟨Ao5800252, co5800252, eo5800252⟩ := Kd.R_slice HO252.out
      (first | subst eo5800252 | (injection eo5800252 with f1_ f2_ f3_; have f4_ := f1_.symm; have f5_ := f3_.symm; clear f1_ f2_ f3_; subst f4_; subst f5_))
      refine hK.out _ _ ⟨((HB.out.cell (lc_ w _ hw244_0)).trans hw244_0), ((HB.out.cell (lc_ w _ hw245_0)).trans hw245_0)⟩ (fun hHeld => ?_)
      clear hK K
      refine norm_ (a' := ?_) ?_ ?_
      rotate_left
      ·show Act.put _ (some 38) _ = _
       simp only [Act.put, la_, lz_, ls_, i64_w, i32_w]
       rfl
      refine pure_ (i := 16) (N := some 39) (v := ?_) (a' := ?_) #[T_, T_, T_, T_, T_, T_, T_, T_, T_, T_, T_, T_, T_, T_, T_, T_, T_, T_, F_] rfl rfl (any_of HT_.out (by kernel_rfl)) (fun _ _ _ h => h) (Or.inl ⟨by rfl, ?_⟩) ?_ ?_
      rotate_left
      ·intro w'
       go_simp
       with_reducible rfl
      rotate_left
      ·simp only [Act.put, la_, lz_, ls_, i64_w, i32_w]
       rfl
      exact norm_ (by simp only [putAll, Act.put, la_, lz_, ls_]) (hCont (v24200, .slice Ao5800252 y250.length co5800252, gb24205) _ ⟨hHeld, (Kd.ur_ HO252.out), (u_ BK241.out), (u_ BK253.out), GW253.out, GE253.out, NB241_253.out, NB253_241.out, (us_ HB.out)⟩)
     skip
     refine box_step ?hg (N := 8) ?hd (cs := #[.int .i64 0, .int .i64 0, .int .i64 0, .slice none 0 0]) (t := 40) ?hr ?_; (case hd => rfl); (case hg => rfl); (case hr => first | (go_simp; done) | (go_simp; rfl))
     intro gb24205 hg w24201 hbox hb
     have n0_ := mk_ (blk_below (u_ BK241.out) hb)
     have n1_ := mk_ (below_step (us_ HB.out) hb)
     have n2_ := mk_ (hbox)
     have n3_ := mk_ ((by rw [hg]; exact (below_size (us_ HB.out)) : w.heap.size ≤ gb24205))
     have n4_ := mk_ ((by rw [hg]; exact (below_size (us_ HB.out)) : w.heap.size ≤ gb24205))
     have n5_ := mk_ ((by rw [hg]; exact Nat.ne_of_lt (blk_lt (u_ BK241.out)) : gb241 ≠ gb24205))
     have n6_ := mk_ ((by rw [hg]; exact Nat.ne_of_gt (blk_lt (u_ BK241.out)) : gb24205 ≠ gb241))
     clear BK241
     clear HB
     have BK241 := n0_
     have HB := n1_
     have BK253 := n2_
     have GW253 := n3_
     have GE253 := ge_ n4_.out
     have NB241_253 := nq_ n5_.out
     have NB253_241 := nq_ n6_.out
     clear n0_ n1_ n2_ n3_ n4_ n5_ n6_
     clear hb hbox hg
     refine hK.out _ _ ⟨((HB.out.cell (lc_ w _ hw244_0)).trans hw244_0), ((HB.out.cell (lc_ w _ hw245_0)).trans hw245_0)⟩ (fun hHeld => ?_)
     clear hK K
     refine norm_ (a' := ?_) ?_ ?_
     rotate_left
     ·show Act.put _ (some 8) _ = _
      simp only [Act.put, la_, lz_, ls_, i64_w, i32_w]
      rfl
     refine one_ (i := 9) (N := some 32) #[T_, T_, T_, T_, T_, T_, T_, T_, T_, T_, T_, T_, T_, T_, T_, F_, F_, T_, F_] rfl rfl (one_of HT_.out (by kernel_rfl)) (by decide) (fun K hK => ?_)
     refine Kd.R_lit_step (Kd.int .u8) _ 5 ?hg (N := 32) ?hd (xs := ([] : List Int)) (inner := []) (ok := fun _ => True) (okp := fun _ => True) ?hr ?hp (fun _ hk => hk) trivial (Below.refl _ _) (Nat.le_refl _) (by simp) ?_; (case hd => rfl); (case hg => rfl); (case hr => first | (go_simp; done) | (go_simp; rfl)); (case hp => exact (Reps.none _ _))
     intro v24200 w24202 ho24204 hb hg_ hnew_
     clear hg_ hnew_
     (first | rw [← Ny246.out] at ho24204 | (simp only [Int.reduceToNat] at ho24204; rw [← Ny246.out] at ho24204))
     have n0_ := mk_ (Kd.R_lower ho24204 (below_size (us_ HB.out)))
     have n1_ := mk_ (blk_below (u_ BK241.out) hb)
     have n2_ := mk_ (blk_below (u_ BK253.out) hb)
     have n3_ := mk_ (below_step (us_ HB.out) hb)
     clear BK241
     clear BK253
     clear HB
     have HO248 := n0_
     have BK241 := n1_
     have BK253 := n2_
     have HB := n3_
     clear n0_ n1_ n2_ n3_
     clear hb ho24204
     refine hK.out _ _ ⟨((HB.out.cell (lc_ w _ hw244_0)).trans hw244_0), ((HB.out.cell (lc_ w _ hw245_0)).trans hw245_0)⟩ (fun hHeld => ?_)
     clear hK K
     refine norm_ (a' := ?_) ?_ ?_
     rotate_left
     ·show Act.put _ (some 32) _ = _
      simp only [Act.put, la_, lz_, ls_, i64_w, i32_w]
      rfl
     refine one_ (i := 15) (N := some 38) #[T_, T_, T_, T_, T_, T_, T_, T_, T_, T_, T_, T_, T_, T_, T_, T_, F_, T_, F_] rfl rfl (one_of HT_.out (by kernel_rfl)) (by decide) (fun K hK => ?_)
     refine Kd.R_append_rows_step (Kd.int .u8) (w0 := w) w.heap.size (by rfl) (.tmp 32) (.tmp 37) 29 5 (.int .u8 0) 1 rfl Try.underlying29 info5 rfl (by decide) (by omega) v24200 y246 ((l2.take ((ji22) : Int).toNat).drop 3) _ _ _ (fun _ => True) (fun _ => False) rfl rfl ?aO ?aR (fun _ _ h => h) (fun _ h => h.elim) ?aF ?aB ?aS ?aL ?_
     (case aR => first | (have e_ := (Kd.C_below HR4400.out HB.out); rw [show ((l2.take ((ji22) : Int).toNat).drop 3).length = ((ji22).toNat - 3) from (by rw [List.length_drop, List.length_take]; have h_ : ((ji22) : Int) ≤ (l2.length : Int) := of_decide_eq_true (by first | (with_reducible assumption) | assumption); omega)] at e_; exact e_) | (rw [← show ((l2.take ((ji22) : Int).toNat).drop 3).length = ((ji22).toNat - 3) from (by rw [List.length_drop, List.length_take]; have h_ : ((ji22) : Int) ≤ (l2.length : Int) := of_decide_eq_true (by first | (with_reducible assumption) | assumption); omega)]; repeat (first | exact (Kd.C_below HR4400.out HB.out) | (with_reducible refine Kd.C_alloc ?_ _) | (with_reducible refine Kd.C_drewN ?_ _) | (with_reducible refine Kd.C_drew ?_))) | (repeat (first | exact (Kd.C_below HR4400.out HB.out) | (with_reducible refine Kd.C_alloc ?_ _) | (with_reducible refine Kd.C_drewN ?_ _) | (with_reducible refine Kd.C_drew ?_))))
     (case aB => exact (us_ HB.out))
     (case aF => exact (fun _ _ => trivial))
     (case aO => exact (Kd.ur_ HO248.out))
     (case aS => exact (below_size (us_ HB.out)))
     (case aL => have := LMc16.out; have hlx_ := (show ((l2.take ((ji22) : Int).toNat).drop 3).length = ((ji22).toNat - 3) from (by rw [List.length_drop, List.length_take]; have h_ : ((ji22) : Int) ≤ (l2.length : Int) := of_decide_eq_true (by first | (with_reducible assumption) | assumption); omega)); omega)
     intro v24203 w5800252 ho hb hg hat
     rw [← Ny250.out] at ho
     have n0_ := mk_ (blk_grown (g := gb241) (o := .cells #[.int .i64 0, .int .i64 0, .int .i64 0, .slice none 0 0] 40 (0, 0)) (u_ BK241.out) hg (Kd.R_ne HO248.out BK241.out (by decide)))
     have n1_ := mk_ (blk_grown (g := gb24205) (o := .cells #[.int .i64 0, .int .i64 0, .int .i64 0, .slice none 0 0] 40 (0, 0)) (u_ BK253.out) hg (Kd.R_ne HO248.out BK253.out (by decide)))
     have n2_ := mk_ (hb)
     have n3_ := mk_ (ho)
     clear BK241
     clear BK253
     clear HB
     clear HO248
     have BK241 := n0_
     have BK253 := n1_
     have HB := n2_
     have HO252 := n3_
     clear n0_ n1_ n2_ n3_
     clear ho hb hg hat
     obtain ⟨Ao5800252, co5800252, eo5800252⟩ := Kd.R_slice HO252.out
     (first | subst eo5800252 | (injection eo5800252 with f1_ f2_ f3_; have f4_ := f1_.symm; have f5_ := f3_.symm; clear f1_ f2_ f3_; subst f4_; subst f5_))
     refine hK.out _ _ ⟨((HB.out.cell (lc_ w _ hw244_0)).trans hw244_0), ((HB.out.cell (lc_ w _ hw245_0)).trans hw245_0)⟩ (fun hHeld => ?_)
     clear hK K
     refine norm_ (a' := ?_) ?_ ?_
     rotate_left
     ·show Act.put _ (some 38) _ = _
      simp only [Act.put, la_, lz_, ls_, i64_w, i32_w]
      rfl
     refine pure_ (i := 16) (N := some 39) (v := ?_) (a' := ?_) #[T_, T_, T_, T_, T_, T_, T_, T_, T_, T_, T_, T_, T_, T_, T_, T_, T_, T_, F_] rfl rfl (any_of HT_.out (by kernel_rfl)) (fun _ _ _ h => h) (Or.inl ⟨by rfl, ?_⟩) ?_ ?_
     rotate_left
     ·intro w'
      go_simp
      with_reducible rfl
     rotate_left
     ·simp only [Act.put, la_, lz_, ls_, i64_w, i32_w]
      rfl
     exact norm_ (by simp only [putAll, Act.put, la_, lz_, ls_]) (hCont (v24200, .slice Ao5800252 y250.length co5800252, gb24205) _ ⟨hHeld, (Kd.ur_ HO252.out), (u_ BK241.out), (u_ BK253.out), GW253.out, GE253.out, NB241_253.out, NB253_241.out, (us_ HB.out)⟩)
    rintro ⟨v24200, v24203, gb24205⟩ w24240 ⟨hS_, h0_, h1_, h2_, h3_, h4_, h5_, h6_, h7_⟩
    have n0_ : Aside0 (Kd.R (Kd.int .u8) 5 w24240 w.heap.size (fun _ => True) v24203 y250) := ⟨h0_⟩
    have n1_ : Aside0 (w24240.heap[gb241]? = some (.cells #[.int .i64 0, .int .i64 0, .int .i64 0, .slice none 0 0] 40 (0, 0))) := ⟨h1_⟩
    have n2_ : Aside0 (w24240.heap[gb24205]? = some (.cells #[.int .i64 0, .int .i64 0, .int .i64 0, .slice none 0 0] 40 (0, 0))) := ⟨h2_⟩
    have n3_ : Aside0 (w.heap.size ≤ gb24205) := ⟨h3_⟩
    have n4_ : Aside0 (w.heap.size ≤ gb24205) := ⟨h4_⟩
    have n5_ : Aside0 (gb241 ≠ gb24205) := ⟨h5_⟩
    have n6_ : Aside0 (gb24205 ≠ gb241) := ⟨h6_⟩
    have n7_ : Aside0 (Below w.heap.size w w24240) := ⟨h7_⟩
    clear BK241
    clear HB
    clear h0_ h1_ h2_ h3_ h4_ h5_ h6_ h7_
    have HO252 := n0_
    have BK241 := n1_
    have BK253 := n2_
    have GW253 := n3_
    have GE253 := ge_ n4_.out
    have NB241_253 := nq_ n5_.out
    have NB253_241 := nq_ n6_.out
    have HB := n7_
    clear n0_ n1_ n2_ n3_ n4_ n5_ n6_ n7_
    have hHeld : w24240.cell? ad3200 = some (.int .u8 (rd l2 0)) ∧ w24240.cell? ⟨ad3200.block, ad3200.off + 1, none⟩ = some (.int .u8 (rd l2 1)) := hS_
    obtain ⟨Ao1850252, co1850252, eo1850252⟩ := Kd.R_slice HO252.out
    (first | subst eo1850252 | (injection eo1850252 with f1_ f2_ f3_; have f4_ := f1_.symm; have f5_ := f3_.symm; clear f1_ f2_ f3_; subst f4_; subst f5_))
    refine norm_ (a' := ?_) ?_ ?_
    rotate_left
    ·simp only [putAll, Act.put, la_, lz_, ls_]
     rfl
    refine one_ (i := 18) (N := none) #[T_, T_, T_, T_, T_, T_, T_, T_, T_, T_, T_, T_, T_, T_, T_, T_, T_, T_, T_] rfl rfl (one_of HT_.out (by kernel_rfl)) (by decide) (fun K hK => ?_)
    have hs8640 : w24240.cell? ⟨gb24205, 0, none⟩ = some (.int .i64 0) := (blk_cell BK253.out 0).trans rfl
    have hfs8640 := blk_frozen BK253.out 0
    have hns8640_0 := NB241_253.out
    have hms8640_0 := NB253_241.out
    have hs8800 : w24240.cell? ⟨gb24205, 1, none⟩ = some (.int .i64 0) := (blk_cell BK253.out 1).trans rfl
    have hfs8800 := blk_frozen BK253.out 1
    have hns8800_0 := NB241_253.out
    have hms8800_0 := NB253_241.out
    have hs8960 : w24240.cell? ⟨gb24205, 2, none⟩ = some (.int .i64 0) := (blk_cell BK253.out 2).trans rfl
    have hfs8960 := blk_frozen BK253.out 2
    have hns8960_0 := NB241_253.out
    have hms8960_0 := NB253_241.out
    have hs9120 : w24240.cell? ⟨gb24205, 3, none⟩ = some (.slice none 0 0) := (blk_cell BK253.out 3).trans rfl
    have hfs9120 := blk_frozen BK253.out 3
    have hns9120_0 := NB241_253.out
    have hms9120_0 := NB253_241.out
    refine skip_ (w1 := ?_) (by rfl) rfl ?_ ?_
    rotate_left
    ·go_simp
     rfl
    refine hK.out _ _ ⟨((cell_far (p := ⟨gb24205, _, none⟩) (by first | exact (ne1_ (by have := lc_ _ _ hw244_0; first | rwa [add_block] at this | exact this) GW253.out) | (rw [add_block]; exact (ne1_ (by have := lc_ _ _ hw244_0; first | rwa [add_block] at this | exact this) GW253.out)) | (show (Addr.add _ _).block ≠ _; rw [add_block]; exact (ne1_ (by have := lc_ _ _ hw244_0; first | rwa [add_block] at this | exact this) GW253.out)) | (dsimp only; exact (ne1_ (by have := lc_ _ _ hw244_0; first | rwa [add_block] at this | exact this) GW253.out))) _).trans (((cell_far (p := ⟨gb24205, _, none⟩) (by first | exact (ne1_ (by have := lc_ _ _ hw244_0; first | rwa [add_block] at this | exact this) GW253.out) | (rw [add_block]; exact (ne1_ (by have := lc_ _ _ hw244_0; first | rwa [add_block] at this | exact this) GW253.out)) | (show (Addr.add _ _).block ≠ _; rw [add_block]; exact (ne1_ (by have := lc_ _ _ hw244_0; first | rwa [add_block] at this | exact this) GW253.out)) | (dsimp only; exact (ne1_ (by have := lc_ _ _ hw244_0; first | rwa [add_block] at this | exact this) GW253.out))) _).trans (((cell_far (p := ⟨gb24205, _, none⟩) (by first | exact (ne1_ (by have := lc_ _ _ hw244_0; first | rwa [add_block] at this | exact this) GW253.out) | (rw [add_block]; exact (ne1_ (by have := lc_ _ _ hw244_0; first | rwa [add_block] at this | exact this) GW253.out)) | (show (Addr.add _ _).block ≠ _; rw [add_block]; exact (ne1_ (by have := lc_ _ _ hw244_0; first | rwa [add_block] at this | exact this) GW253.out)) | (dsimp only; exact (ne1_ (by have := lc_ _ _ hw244_0; first | rwa [add_block] at this | exact this) GW253.out))) _).trans (((cell_far (p := ⟨gb24205, _, none⟩) (by first | exact (ne1_ (by have := lc_ _ _ hw244_0; first | rwa [add_block] at this | exact this) GW253.out) | (rw [add_block]; exact (ne1_ (by have := lc_ _ _ hw244_0; first | rwa [add_block] at this | exact this) GW253.out)) | (show (Addr.add _ _).block ≠ _; rw [add_block]; exact (ne1_ (by have := lc_ _ _ hw244_0; first | rwa [add_block] at this | exact this) GW253.out)) | (dsimp only; exact (ne1_ (by have := lc_ _ _ hw244_0; first | rwa [add_block] at this | exact this) GW253.out))) _).trans (hHeld.1)))))))), ((cell_far (p := ⟨gb24205, _, none⟩) (by first | exact (ne1_ (by have := lc_ _ _ hw245_0; first | rwa [add_block] at this | exact this) GW253.out) | (rw [add_block]; exact (ne1_ (by have := lc_ _ _ hw245_0; first | rwa [add_block] at this | exact this) GW253.out)) | (show (Addr.add _ _).block ≠ _; rw [add_block]; exact (ne1_ (by have := lc_ _ _ hw245_0; first | rwa [add_block] at this | exact this) GW253.out)) | (dsimp only; exact (ne1_ (by have := lc_ _ _ hw245_0; first | rwa [add_block] at this | exact this) GW253.out))) _).trans (((cell_far (p := ⟨gb24205, _, none⟩) (by first | exact (ne1_ (by have := lc_ _ _ hw245_0; first | rwa [add_block] at this | exact this) GW253.out) | (rw [add_block]; exact (ne1_ (by have := lc_ _ _ hw245_0; first | rwa [add_block] at this | exact this) GW253.out)) | (show (Addr.add _ _).block ≠ _; rw [add_block]; exact (ne1_ (by have := lc_ _ _ hw245_0; first | rwa [add_block] at this | exact this) GW253.out)) | (dsimp only; exact (ne1_ (by have := lc_ _ _ hw245_0; first | rwa [add_block] at this | exact this) GW253.out))) _).trans (((cell_far (p := ⟨gb24205, _, none⟩) (by first | exact (ne1_ (by have := lc_ _ _ hw245_0; first | rwa [add_block] at this | exact this) GW253.out) | (rw [add_block]; exact (ne1_ (by have := lc_ _ _ hw245_0; first | rwa [add_block] at this | exact this) GW253.out)) | (show (Addr.add _ _).block ≠ _; rw [add_block]; exact (ne1_ (by have := lc_ _ _ hw245_0; first | rwa [add_block] at this | exact this) GW253.out)) | (dsimp only; exact (ne1_ (by have := lc_ _ _ hw245_0; first | rwa [add_block] at this | exact this) GW253.out))) _).trans (((cell_far (p := ⟨gb24205, _, none⟩) (by first | exact (ne1_ (by have := lc_ _ _ hw245_0; first | rwa [add_block] at this | exact this) GW253.out) | (rw [add_block]; exact (ne1_ (by have := lc_ _ _ hw245_0; first | rwa [add_block] at this | exact this) GW253.out)) | (show (Addr.add _ _).block ≠ _; rw [add_block]; exact (ne1_ (by have := lc_ _ _ hw245_0; first | rwa [add_block] at this | exact this) GW253.out)) | (dsimp only; exact (ne1_ (by have := lc_ _ _ hw245_0; first | rwa [add_block] at this | exact this) GW253.out))) _).trans (hHeld.2))))))))⟩ (fun hHeld => ?_)
    clear hK K
    refine done_ (done_of HT_.out (by kernel_rfl)) ?_
    obtain ⟨i27960, hi27960, _, hsz27961, _⟩ := info_parts info5
    obtain ⟨hcut27961, hA27961, hC27961⟩ := print_take_of (P := Try.prog) (Value.int .u8) 0 29 5 .i64 Try.underlying29 hi27960 hsz27961 (some ad3200) c2 l2 (ji22) (of_decide_eq_true (by first | (with_reducible assumption) | assumption)) (of_decide_eq_true (by first | (with_reducible assumption) | assumption)) HC2.out
    have HR28040 := mk_ (Kd.C_of_reads (h1 := fun _ => rfl) (hA27961 _ (Kd.reads_of_C HR2.out)))
    have HC28040 := mk_ hC27961
    clear hA27961 hC27961 hi27960 hsz27961
    try go_wp2
    have n0_ : Aside0 (Kd.R (Kd.int .u8) 5 ((((w24240.setCell ⟨gb24205, 0, none⟩ (.int .i64 a0)).setCell ⟨gb24205, 1, none⟩ (.int .i64 (wrap64 (rd l2 0)))).setCell ⟨gb24205, 2, none⟩ (.int .i64 (wrap64 (rd l2 1)))).setCell ⟨gb24205, 3, none⟩ (.slice Ao1850252 y250.length co1850252)) w.heap.size (fun _ => True) (.slice Ao1850252 y250.length co1850252) y250) := ⟨by (with_reducible repeat (first | apply Kd.R_alloc | apply Kd.R_drewN | apply Kd.R_drew)); exact Kd.R_mono (Kd.R_far (p := ⟨gb24205, 3, none⟩) (Kd.R_far (p := ⟨gb24205, 2, none⟩) (Kd.R_far (p := ⟨gb24205, 1, none⟩) (Kd.R_far (p := ⟨gb24205, 0, none⟩) (Kd.R_types HO252.out BK253.out (by decide)) (fun _ hk => hk.2) (.int .i64 a0)) (fun _ hk => hk.2) (.int .i64 (wrap64 (rd l2 0)))) (fun _ hk => hk.2) (.int .i64 (wrap64 (rd l2 1)))) (fun _ hk => hk.2) (.slice Ao1850252 y250.length co1850252)) (fun _ hk => trivial)⟩
    have n1_ : Aside0 (((((w24240.setCell ⟨gb24205, 0, none⟩ (.int .i64 a0)).setCell ⟨gb24205, 1, none⟩ (.int .i64 (wrap64 (rd l2 0)))).setCell ⟨gb24205, 2, none⟩ (.int .i64 (wrap64 (rd l2 1)))).setCell ⟨gb24205, 3, none⟩ (.slice Ao1850252 y250.length co1850252)).heap[gb241]? = some (.cells #[.int .i64 0, .int .i64 0, .int .i64 0, .slice none 0 0] 40 (0, 0))) := ⟨uf_ BK241.out⟩
    have n2_ : Aside0 (((((w24240.setCell ⟨gb24205, 0, none⟩ (.int .i64 a0)).setCell ⟨gb24205, 1, none⟩ (.int .i64 (wrap64 (rd l2 0)))).setCell ⟨gb24205, 2, none⟩ (.int .i64 (wrap64 (rd l2 1)))).setCell ⟨gb24205, 3, none⟩ (.slice Ao1850252 y250.length co1850252)).heap[gb24205]? = some (.cells #[.int .i64 a0, .int .i64 (wrap64 (rd l2 0)), .int .i64 (wrap64 (rd l2 1)), .slice Ao1850252 y250.length co1850252] 40 (0, 0))) := ⟨by (with_reducible repeat (first | refine bn_ ?_ _ | refine bw_ ?_ | refine ba_ ?_ _)); refine blk_put (cs := #[.int .i64 a0, .int .i64 (wrap64 (rd l2 0)), .int .i64 (wrap64 (rd l2 1)), .slice none 0 0]) ?_ 3 _ rfl; (with_reducible repeat (first | refine bn_ ?_ _ | refine bw_ ?_ | refine ba_ ?_ _)); refine blk_put (cs := #[.int .i64 a0, .int .i64 (wrap64 (rd l2 0)), .int .i64 0, .slice none 0 0]) ?_ 2 _ rfl; (with_reducible repeat (first | refine bn_ ?_ _ | refine bw_ ?_ | refine ba_ ?_ _)); refine blk_put (cs := #[.int .i64 a0, .int .i64 0, .int .i64 0, .slice none 0 0]) ?_ 1 _ rfl; (with_reducible repeat (first | refine bn_ ?_ _ | refine bw_ ?_ | refine ba_ ?_ _)); refine blk_put (cs := #[.int .i64 0, .int .i64 0, .int .i64 0, .slice none 0 0]) ?_ 0 _ rfl; (with_reducible repeat (first | refine bn_ ?_ _ | refine bw_ ?_ | refine ba_ ?_ _)); exact BK253.out⟩
    have n3_ : Aside0 (Below w.heap.size w ((((w24240.setCell ⟨gb24205, 0, none⟩ (.int .i64 a0)).setCell ⟨gb24205, 1, none⟩ (.int .i64 (wrap64 (rd l2 0)))).setCell ⟨gb24205, 2, none⟩ (.int .i64 (wrap64 (rd l2 1)))).setCell ⟨gb24205, 3, none⟩ (.slice Ao1850252 y250.length co1850252))) := ⟨us_ HB.out⟩
    (try clear HO252)
    (try clear BK241)
    (try clear BK253)
    (try clear HB)
    generalize ((((w24240.setCell ⟨gb24205, 0, none⟩ (.int .i64 a0)).setCell ⟨gb24205, 1, none⟩ (.int .i64 (wrap64 (rd l2 0)))).setCell ⟨gb24205, 2, none⟩ (.int .i64 (wrap64 (rd l2 1)))).setCell ⟨gb24205, 3, none⟩ (.slice Ao1850252 y250.length co1850252)) = w24600 at n0_ n1_ n2_ n3_ ⊢
    have HO252 := n0_
    have BK241 := n1_
    have BK253 := n2_
    have HB := n3_
    clear n0_ n1_ n2_ n3_
    have n0_ := mk_ (Kd.R_drew HO252.out)
    have n1_ := mk_ (blk_drew BK241.out)
    have n2_ := mk_ (blk_drew BK253.out)
    have n3_ := mk_ (below_drew1 HB.out)
    clear HO252
    clear BK241
    clear BK253
    clear HB
    have HO252 := n0_
    have BK241 := n1_
    have BK253 := n2_
    have HB := n3_
    clear n0_ n1_ n2_ n3_
    have p26920 : 0 ≤ (2 : Int) := (by omega)
    have q26920 : 2 < (l2.length : Int) := of_decide_eq_true (by first | (with_reducible assumption) | assumption)
    obtain ⟨ad26920, e26920, hx255_0⟩ := Kd.at_int HR2.out 2 p26920 q26920
    have hw255_0 := hx255_0
    (try rw [show ((2 : Int)).toNat = 2 from rfl] at hw255_0)
    (try rw [show 2 * 1 = 2 from rfl] at hw255_0)
    (try simp only [Nat.reduceMul, Nat.reduceEqDiff, Go.Addr.add, ↓reduceIte] at hw255_0)
    obtain rfl : ad3200 = ad26920 := (by injection e26920)
    (try simp only [show (2 : Int).toNat = 2 from rfl, Nat.reduceMul, Nat.reduceEqDiff, Go.Addr.add, ↓reduceIte] at hx255_0)
    have qi26920 : (2 < l2.length) = True := eq_true (by omega)
    (try rw [show ((2 : Int)).toNat = 2 from rfl] at hx255_0)
    replace hx255_0 := (HB.out.cell (lc_ w _ hx255_0)).trans hx255_0
    replace p26920 := eq_true p26920
    replace q26920 := eq_true q26920
    refine start_ (n := 29) (S := fun w' => w'.cell? ⟨gb24205, 0, none⟩ = some (.int .i64 a0) ∧ w'.cell? ⟨gb24205, 1, none⟩ = some (.int .i64 (wrap64 (rd l2 0))) ∧ w'.cell? ⟨gb24205, 2, none⟩ = some (.int .i64 (wrap64 (rd l2 1))) ∧ w'.cell? ⟨gb24205, 3, none⟩ = some (.slice Ao1850252 y250.length co1850252) ∧ w'.cell? ⟨ad3200.block, ad3200.off + 2, none⟩ = some (.int .u8 (rd l2 2))) (ds := []) #[F_, F_, F_, F_, F_, F_, F_, F_, F_, F_, F_, F_, F_, F_, F_, F_, F_, F_, F_, F_, F_, F_, F_, F_, F_, F_, F_, F_, F_] (by kernel_rfl) rfl rfl ⟨(blk_cell BK253.out 0).trans rfl, (blk_cell BK253.out 1).trans rfl, (blk_cell BK253.out 2).trans rfl, (blk_cell BK253.out 3).trans rfl, ((HB.out.cell (lc_ w _ hw255_0)).trans hw255_0)⟩ (fun hHeld => ?_); refine with_tabW spec_MailFrom.tab4 spec_MailFrom.bits4 (fun HT_ HW_ => ?_)
    generalize w24600.drew = w27280 at HO252 BK241 BK253 HB hx255_0 hHeld ⊢
    refine take_ (i := 0) (N := some 40) (v := ?_) (a' := ?_) #[T_, F_, F_, F_, F_, F_, F_, F_, F_, F_, F_, F_, F_, F_, F_, F_, F_, F_, F_, F_, F_, F_, F_, F_, F_, F_, F_, F_, F_] rfl rfl (take_ofW HT_.out HW_.out (by kernel_rfl)) (fun _ _ _ h => h) (Or.inl ⟨by rfl, ?_⟩) hHeld ?_ ?_
    rotate_left
    ·rintro w' ⟨s6680, s6681, s27320, s27321, s27322⟩
     go_simp
     with_reducible rfl
    rotate_left
    ·simp only [Act.put, la_, lz_, ls_, i64_w, i32_w]
     rfl
    refine one_ (i := 1) (N := some 41) #[T_, T_, F_, F_, F_, F_, F_, F_, F_, F_, F_, F_, F_, F_, F_, F_, F_, F_, F_, F_, F_, F_, F_, F_, F_, F_, F_, F_, F_] rfl rfl (one_of HT_.out (by kernel_rfl)) (by decide) (fun K hK => ?_)
    refine goes_ Try.func41 (by kernel_rfl) rfl #[.agg #[.int .i64 a0, .int .i64 (wrap64 (rd l2 0)), .int .i64 (wrap64 (rd l2 1)), .slice Ao1850252 y250.length co1850252]] (by rfl) rfl rfl (by (try simp only [lm_, lo_, ln_]); try rfl) ?_
    with_reducible refine (spec_MailOk.calls a0 (wrap64 (rd l2 0)) (wrap64 (rd l2 1)) _ _ y250 true _ ?side1 ?side2 A17.out).mono ?_
    (case side1 => repeat (first | exact (Kd.R_reads' HO252.out).2.2 | (with_reducible refine Kd.C_alloc ?_ _) | (with_reducible refine Kd.C_drewN ?_ _) | (with_reducible refine Kd.C_drew ?_)))
    (case side2 => exact (Kd.R_reads' HO252.out).2.1)
    rintro e w12080 ⟨rfl, hb⟩
    refine ⟨_, rfl, ?_⟩
    have n0_ := mk_ (Kd.R_below (Kd.ur_ HO252.out) hb)
    have n1_ := mk_ (blk_below (u_ BK241.out) hb)
    have n2_ := mk_ (blk_below (u_ BK253.out) hb)
    have n3_ := mk_ (below_step (us_ HB.out) hb)
    clear HO252
    clear BK241
    clear BK253
    clear HB
    have HO252 := n0_
    have BK241 := n1_
    have BK253 := n2_
    have HB := n3_
    clear n0_ n1_ n2_ n3_
    (try clear hb)
    (try clear hb2)
    (try clear hk)
    (try clear hi)
    refine hK.out _ _ ⟨(blk_cell BK253.out 0).trans rfl, (blk_cell BK253.out 1).trans rfl, (blk_cell BK253.out 2).trans rfl, (blk_cell BK253.out 3).trans rfl, ((HB.out.cell (lc_ w _ hw255_0)).trans hw255_0)⟩ (fun hHeld => ?_)
    clear hK K
    refine norm_ (a' := ?_) ?_ ?_
    rotate_left
    ·show Act.put _ (some 41) _ = _
     simp only [Act.put, la_, lz_, ls_, i64_w, i32_w]
     rfl
    refine pure_ (i := 2) (N := some 42) (v := ?_) (a' := ?_) #[T_, T_, T_, F_, F_, F_, F_, F_, F_, F_, F_, F_, F_, F_, F_, F_, F_, F_, F_, F_, F_, F_, F_, F_, F_, F_, F_, F_, F_] rfl rfl (any_of HT_.out (by kernel_rfl)) (fun _ _ _ h => h) (Or.inl ⟨by rfl, ?_⟩) ?_ ?_
    rotate_left
    ·intro w'
     go_simp
     with_reducible rfl
    rotate_left
    ·simp only [Act.put, la_, lz_, ls_, i64_w, i32_w]
     rfl
    refine pure_ (i := 3) (N := some 43) (v := ?_) (a' := ?_) #[T_, T_, T_, T_, F_, F_, F_, F_, F_, F_, F_, F_, F_, F_, F_, F_, F_, F_, F_, F_, F_, F_, F_, F_, F_, F_, F_, F_, F_] rfl rfl (any_of HT_.out (by kernel_rfl)) (fun _ _ _ h => h) (Or.inl ⟨by rfl, ?_⟩) ?_ ?_
    rotate_left
    ·intro w'
     go_simp
     with_reducible rfl
    rotate_left
    ·simp only [Act.put, la_, lz_, ls_, i64_w, i32_w]
     rfl
    refine pure_ (i := 4) (N := some 44) (v := ?_) (a' := ?_) #[T_, T_, T_, T_, T_, F_, F_, F_, F_, F_, F_, F_, F_, F_, F_, F_, F_, F_, F_, F_, F_, F_, F_, F_, F_, F_, F_, F_, F_] rfl rfl (any_of HT_.out (by kernel_rfl)) (fun _ _ _ h => h) (Or.inl ⟨by rfl, ?_⟩) ?_ ?_
    rotate_left
    ·intro w'
     go_simp
     with_reducible rfl
    rotate_left
    ·simp only [Act.put, la_, lz_, ls_, i64_w, i32_w]
     rfl
    refine pure_ (i := 5) (N := some 45) (v := ?_) (a' := ?_) #[T_, T_, T_, T_, T_, T_, F_, F_, F_, F_, F_, F_, F_, F_, F_, F_, F_, F_, F_, F_, F_, F_, F_, F_, F_, F_, F_, F_, F_] rfl rfl (any_of HT_.out (by kernel_rfl)) (fun _ _ _ h => h) (Or.inl ⟨by rfl, ?_⟩) ?_ ?_
    rotate_left
    ·intro w'
     go_simp
     with_reducible rfl
    rotate_left
    ·simp only [Act.put, la_, lz_, ls_, i64_w, i32_w]
     rfl
    refine pure_ (i := 8) (N := some 48) (v := ?_) (a' := ?_) #[T_, T_, T_, T_, T_, T_, F_, F_, T_, F_, F_, F_, F_, F_, F_, F_, F_, F_, F_, F_, F_, F_, F_, F_, F_, F_, F_, F_, F_] rfl rfl (any_of HT_.out (by kernel_rfl)) (fun _ _ _ h => h) (Or.inl ⟨by rfl, ?_⟩) ?_ ?_
    rotate_left
    ·intro w'
     go_simp
     with_reducible rfl
    rotate_left
    ·simp only [Act.put, la_, lz_, ls_, i64_w, i32_w]
     rfl
    refine take_ (i := 6) (N := some 46) (v := ?_) (a' := ?_) #[T_, T_, T_, T_, T_, T_, T_, F_, T_, F_, F_, F_, F_, F_, F_, F_, F_, F_, F_, F_, F_, F_, F_, F_, F_, F_, F_, F_, F_] rfl rfl (take_ofW HT_.out HW_.out (by kernel_rfl)) (fun _ _ _ h => h) (Or.inl ⟨by rfl, ?_⟩) hHeld ?_ ?_
    rotate_left
    ·rintro w' ⟨s6680, s6681, s27320, s27321, s27322⟩
     go_simp
     with_reducible rfl
    rotate_left
    ·simp only [Act.put, la_, lz_, ls_, i64_w, i32_w]
     rfl
    refine pure_ (i := 7) (N := some 47) (v := ?_) (a' := ?_) #[T_, T_, T_, T_, T_, T_, T_, T_, T_, F_, F_, F_, F_, F_, F_, F_, F_, F_, F_, F_, F_, F_, F_, F_, F_, F_, F_, F_, F_] rfl rfl (any_of HT_.out (by kernel_rfl)) (fun _ _ _ h => h) (Or.inl ⟨by rfl, ?_⟩) ?_ ?_
    rotate_left
    ·intro w'
     go_simp
     with_reducible rfl
    rotate_left
    ·simp only [Act.put, la_, lz_, ls_, i64_w, i32_w]
     rfl
    refine take_ (i := 9) (N := some 49) (v := ?_) (a' := ?_) #[T_, T_, T_, T_, T_, T_, T_, T_, T_, T_, F_, F_, F_, F_, F_, F_, F_, F_, F_, F_, F_, F_, F_, F_, F_, F_, F_, F_, F_] rfl rfl (take_ofW HT_.out HW_.out (by kernel_rfl)) (fun _ _ _ h => h) (Or.inl ⟨by rfl, ?_⟩) hHeld ?_ ?_
    rotate_left
    ·rintro w' ⟨s6680, s6681, s27320, s27321, s27322⟩
     go_simp
     with_reducible rfl
    rotate_left
    ·simp only [Act.put, la_, lz_, ls_, i64_w, i32_w]
     rfl
    refine pure_ (i := 10) (N := some 50) (v := ?_) (a' := ?_) #[T_, T_, T_, T_, T_, T_, T_, T_, T_, T_, T_, F_, F_, F_, F_, F_, F_, F_, F_, F_, F_, F_, F_, F_, F_, F_, F_, F_, F_] rfl rfl (any_of HT_.out (by kernel_rfl)) (fun _ _ _ h => h) (Or.inl ⟨by rfl, ?_⟩) ?_ ?_
    rotate_left
    ·intro w'
     go_simp
     with_reducible rfl
    rotate_left
    ·simp only [Act.put, la_, lz_, ls_, i64_w, i32_w]
     rfl
    refine pure_ (i := 11) (N := some 51) (v := ?_) (a' := ?_) #[T_, T_, T_, T_, T_, T_, T_, T_, T_, T_, T_, T_, F_, F_, F_, F_, F_, F_, F_, F_, F_, F_, F_, F_, F_, F_, F_, F_, F_] rfl rfl (any_of HT_.out (by kernel_rfl)) (fun _ _ _ h => h) (Or.inl ⟨by rfl, ?_⟩) ?_ ?_
    rotate_left
    ·intro w'
     go_simp
     with_reducible rfl
    rotate_left
    ·simp only [Act.put, la_, lz_, ls_, i64_w, i32_w]
     rfl
    refine pure_ (i := 12) (N := some 52) (v := ?_) (a' := ?_) #[T_, T_, T_, T_, T_, T_, T_, T_, T_, T_, T_, T_, T_, F_, F_, F_, F_, F_, F_, F_, F_, F_, F_, F_, F_, F_, F_, F_, F_] rfl rfl (any_of HT_.out (by kernel_rfl)) (fun _ _ _ h => h) (Or.inl ⟨by rfl, ?_⟩) ?_ ?_
    rotate_left
    ·intro w'
     go_simp
     with_reducible rfl
    rotate_left
    ·simp only [Act.put, la_, lz_, ls_, i64_w, i32_w]
     rfl
    refine pure_ (i := 13) (N := some 53) (v := ?_) (a' := ?_) #[T_, T_, T_, T_, T_, T_, T_, T_, T_, T_, T_, T_, T_, T_, F_, F_, F_, F_, F_, F_, F_, F_, F_, F_, F_, F_, F_, F_, F_] rfl rfl (any_of HT_.out (by kernel_rfl)) (fun _ _ _ h => h) (Or.inl ⟨by rfl, ?_⟩) ?_ ?_
    rotate_left
    ·intro w'
     go_simp
     with_reducible rfl
    rotate_left
    ·simp only [Act.put, la_, lz_, ls_, i64_w, i32_w]
     rfl
    refine pure_ (i := 14) (N := some 54) (v := ?_) (a' := ?_) #[T_, T_, T_, T_, T_, T_, T_, T_, T_, T_, T_, T_, T_, T_, T_, F_, F_, F_, F_, F_, F_, F_, F_, F_, F_, F_, F_, F_, F_] rfl rfl (any_of HT_.out (by kernel_rfl)) (fun _ _ _ h => h) (Or.inl ⟨by rfl, ?_⟩) ?_ ?_
    rotate_left
    ·intro w'
     go_simp
     with_reducible rfl
    rotate_left
    ·simp only [Act.put, la_, lz_, ls_, i64_w, i32_w]
     rfl
    refine pure_ (i := 15) (N := some 55) (v := ?_) (a' := ?_) #[T_, T_, T_, T_, T_, T_, T_, T_, T_, T_, T_, T_, T_, T_, T_, T_, F_, F_, F_, F_, F_, F_, F_, F_, F_, F_, F_, F_, F_] rfl rfl (any_of HT_.out (by kernel_rfl)) (fun _ _ _ h => h) (Or.inl ⟨by rfl, ?_⟩) ?_ ?_
    rotate_left
    ·intro w'
     go_simp
     with_reducible rfl
    rotate_left
    ·simp only [Act.put, la_, lz_, ls_, i64_w, i32_w]
     rfl
    refine pure_ (i := 16) (N := some 56) (v := ?_) (a' := ?_) #[T_, T_, T_, T_, T_, T_, T_, T_, T_, T_, T_, T_, T_, T_, T_, T_, T_, F_, F_, F_, F_, F_, F_, F_, F_, F_, F_, F_, F_] rfl rfl (any_of HT_.out (by kernel_rfl)) (fun _ _ _ h => h) (Or.inl ⟨by rfl, ?_⟩) ?_ ?_
    rotate_left
    ·intro w'
     go_simp
     with_reducible rfl
    rotate_left
    ·simp only [Act.put, la_, lz_, ls_, i64_w, i32_w]
     rfl
    refine pure_ (i := 17) (N := some 57) (v := ?_) (a' := ?_) #[T_, T_, T_, T_, T_, T_, T_, T_, T_, T_, T_, T_, T_, T_, T_, T_, T_, T_, F_, F_, F_, F_, F_, F_, F_, F_, F_, F_, F_] rfl rfl (any_of HT_.out (by kernel_rfl)) (fun _ _ _ h => h) (Or.inl ⟨by rfl, ?_⟩) ?_ ?_
    rotate_left
    ·intro w'
     go_simp
     with_reducible rfl
    rotate_left
    ·simp only [Act.put, la_, lz_, ls_, i64_w, i32_w]
     rfl
    refine pure_ (i := 19) (N := some 59) (v := ?_) (a' := ?_) #[T_, T_, T_, T_, T_, T_, T_, T_, T_, T_, T_, T_, T_, T_, T_, T_, T_, T_, F_, T_, F_, F_, F_, F_, F_, F_, F_, F_, F_] rfl rfl (any_of HT_.out (by kernel_rfl)) (fun _ _ _ h => h) (Or.inl ⟨by rfl, ?_⟩) ?_ ?_
    rotate_left
    ·intro w'
     go_simp
     with_reducible rfl
    rotate_left
    ·simp only [Act.put, la_, lz_, ls_, i64_w, i32_w]
     rfl
    refine pure_ (i := 20) (N := some 60) (v := ?_) (a' := ?_) #[T_, T_, T_, T_, T_, T_, T_, T_, T_, T_, T_, T_, T_, T_, T_, T_, T_, T_, F_, T_, T_, F_, F_, F_, F_, F_, F_, F_, F_] rfl rfl (any_of HT_.out (by kernel_rfl)) (fun _ _ _ h => h) (Or.inl ⟨by rfl, ?_⟩) ?_ ?_
    rotate_left
    ·intro w'
     go_simp
     with_reducible rfl
    rotate_left
    ·simp only [Act.put, la_, lz_, ls_, i64_w, i32_w]
     rfl
    refine pure_ (i := 21) (N := some 61) (v := ?_) (a' := ?_) #[T_, T_, T_, T_, T_, T_, T_, T_, T_, T_, T_, T_, T_, T_, T_, T_, T_, T_, F_, T_, T_, T_, F_, F_, F_, F_, F_, F_, F_] rfl rfl (any_of HT_.out (by kernel_rfl)) (fun _ _ _ h => h) (Or.inl ⟨by rfl, ?_⟩) ?_ ?_
    rotate_left
    ·intro w'
     go_simp
     with_reducible rfl
    rotate_left
    ·simp only [Act.put, la_, lz_, ls_, i64_w, i32_w]
     rfl
    refine pure_ (i := 22) (N := some 62) (v := ?_) (a' := ?_) #[T_, T_, T_, T_, T_, T_, T_, T_, T_, T_, T_, T_, T_, T_, T_, T_, T_, T_, F_, T_, T_, T_, T_, F_, F_, F_, F_, F_, F_] rfl rfl (any_of HT_.out (by kernel_rfl)) (fun _ _ _ h => h) (Or.inl ⟨by rfl, ?_⟩) ?_ ?_
    rotate_left
    ·intro w'
     go_simp
     with_reducible rfl
    rotate_left
    ·simp only [Act.put, la_, lz_, ls_, i64_w, i32_w]
     rfl
    refine pure_ (i := 23) (N := some 63) (v := ?_) (a' := ?_) #[T_, T_, T_, T_, T_, T_, T_, T_, T_, T_, T_, T_, T_, T_, T_, T_, T_, T_, F_, T_, T_, T_, T_, T_, F_, F_, F_, F_, F_] rfl rfl (any_of HT_.out (by kernel_rfl)) (fun _ _ _ h => h) (Or.inl ⟨by rfl, ?_⟩) ?_ ?_
    rotate_left
    ·intro w'
     go_simp
     with_reducible rfl
    rotate_left
    ·simp only [Act.put, la_, lz_, ls_, i64_w, i32_w]
     rfl
    refine pure_ (i := 24) (N := some 64) (v := ?_) (a' := ?_) #[T_, T_, T_, T_, T_, T_, T_, T_, T_, T_, T_, T_, T_, T_, T_, T_, T_, T_, F_, T_, T_, T_, T_, T_, T_, F_, F_, F_, F_] rfl rfl (any_of HT_.out (by kernel_rfl)) (fun _ _ _ h => h) (Or.inl ⟨by rfl, ?_⟩) ?_ ?_
    rotate_left
    ·intro w'
     go_simp
     with_reducible rfl
    rotate_left
    ·simp only [Act.put, la_, lz_, ls_, i64_w, i32_w]
     rfl
    refine pure_ (i := 25) (N := some 65) (v := ?_) (a' := ?_) #[T_, T_, T_, T_, T_, T_, T_, T_, T_, T_, T_, T_, T_, T_, T_, T_, T_, T_, F_, T_, T_, T_, T_, T_, T_, T_, F_, F_, F_] rfl rfl (any_of HT_.out (by kernel_rfl)) (fun _ _ _ h => h) (Or.inl ⟨by rfl, ?_⟩) ?_ ?_
    rotate_left
    ·intro w'
     go_simp
     with_reducible rfl
    rotate_left
    ·simp only [Act.put, la_, lz_, ls_, i64_w, i32_w]
     rfl
    refine one_ (i := 18) (N := some 58) #[T_, T_, T_, T_, T_, T_, T_, T_, T_, T_, T_, T_, T_, T_, T_, T_, T_, T_, T_, T_, T_, T_, T_, T_, T_, T_, F_, F_, F_] rfl rfl (one_of HT_.out (by kernel_rfl)) (by decide) (fun K hK => ?_)
    refine goes_ Try.func89 (by kernel_rfl) rfl #[.slice (some ad3200) l2.length c2, .int .i64 ji22, .int .i64 2] (by rfl) rfl rfl (by (try simp only [List.map_toArray, List.map_cons, List.map_nil]); first | done | (simp only [hji22]; rfl) | rfl | (simp only [List.length_drop, List.length_take]; rfl)) ?_
    with_reducible refine (spec_NumberAt.calls kj3 _ _ l2 ji22 2 t256 _ ?side1 ?side2 A21.out).mono ?_
    (case side1 => repeat (first | exact (Kd.C_below HR2.out HB.out) | (with_reducible refine Kd.C_alloc ?_ _) | (with_reducible refine Kd.C_drewN ?_ _) | (with_reducible refine Kd.C_drew ?_)))
    (case side2 => exact HC2.out)
    rintro e w' ⟨rfl, ⟨nd, rfl⟩⟩
    refine ⟨_, rfl, ?_⟩
    refine hK.out _ _ ⟨(blk_cell BK253.out 0).trans rfl, (blk_cell BK253.out 1).trans rfl, (blk_cell BK253.out 2).trans rfl, (blk_cell BK253.out 3).trans rfl, ((HB.out.cell (lc_ w _ hw255_0)).trans hw255_0)⟩ (fun hHeld => ?_)
    clear hK K
    refine norm_ (a' := ?_) ?_ ?_
    rotate_left
    ·show Act.put _ (some 58) _ = _
     simp only [Act.put, la_, lz_, ls_, i64_w, i32_w]
     rfl
    refine one_ (i := 26) (N := some 66) #[T_, T_, T_, T_, T_, T_, T_, T_, T_, T_, T_, T_, T_, T_, T_, T_, T_, T_, T_, T_, T_, T_, T_, T_, T_, T_, T_, F_, F_] rfl rfl (one_of HT_.out (by kernel_rfl)) (by decide) (fun K hK => ?_)
    refine goes_ Try.func90 (by kernel_rfl) rfl #[.int .i64 a0, .int .i64 a1, .slice (some ad3200) (l2.take ((ji22) : Int).toNat).length c2] (by rfl) rfl rfl (by (try simp only [List.map_toArray, List.map_cons, List.map_nil]); first | done | (rw [show (l2.take ((ji22) : Int).toNat).length = (ji22).toNat from (by rw [List.length_take]; have h_ : ((ji22) : Int) ≤ (l2.length : Int) := of_decide_eq_true (by first | (with_reducible assumption) | assumption); omega)] <;> rfl) | (simp only [hji22]; rfl) | rfl | (simp only [List.length_drop, List.length_take]; rfl)) ?_
    with_reducible refine (spec_l9Sum.calls kj3 a0 a1 _ _ (l2.take ((ji22) : Int).toNat) t258 _ ?side1 ?side2 A25.out).mono ?_
    (case side1 => repeat (first | exact (Kd.C_below HR28040.out (us_ HB.out)) | (with_reducible refine Kd.C_alloc ?_ _) | (with_reducible refine Kd.C_drewN ?_ _) | (with_reducible refine Kd.C_drew ?_)))
    (case side2 => exact HC28040.out)
    rintro e w29200 ⟨rfl, hb⟩
    refine ⟨_, rfl, ?_⟩
    have n0_ := mk_ (Kd.R_below (Kd.ur_ HO252.out) hb)
    have n1_ := mk_ (blk_below (u_ BK241.out) hb)
    have n2_ := mk_ (blk_below (u_ BK253.out) hb)
    have n3_ := mk_ (below_step (us_ HB.out) hb)
    clear HO252
    clear BK241
    clear BK253
    clear HB
    have HO252 := n0_
    have BK241 := n1_
    have BK253 := n2_
    have HB := n3_
    clear n0_ n1_ n2_ n3_
    (try clear hb)
    (try clear hb2)
    (try clear hk)
    (try clear hi)
    refine hK.out _ _ ⟨(blk_cell BK253.out 0).trans rfl, (blk_cell BK253.out 1).trans rfl, (blk_cell BK253.out 2).trans rfl, (blk_cell BK253.out 3).trans rfl, ((HB.out.cell (lc_ w _ hw255_0)).trans hw255_0)⟩ (fun hHeld => ?_)
    clear hK K
    refine norm_ (a' := ?_) ?_ ?_
    rotate_left
    ·show Act.put _ (some 66) _ = _
     simp only [Act.put, la_, lz_, ls_, i64_w, i32_w]
     rfl
    refine pure_ (i := 27) (N := some 67) (v := ?_) (a' := ?_) #[T_, T_, T_, T_, T_, T_, T_, T_, T_, T_, T_, T_, T_, T_, T_, T_, T_, T_, T_, T_, T_, T_, T_, T_, T_, T_, T_, T_, F_] rfl rfl (any_of HT_.out (by kernel_rfl)) (fun _ _ _ h => h) (Or.inl ⟨by rfl, ?_⟩) ?_ ?_
    rotate_left
    ·intro w'
     go_simp
     with_reducible rfl
    rotate_left
    ·simp only [Act.put, la_, lz_, ls_, i64_w, i32_w]
     rfl
    refine pure_ (i := 28) (N := some 68) (v := ?_) (a' := ?_) #[T_, T_, T_, T_, T_, T_, T_, T_, T_, T_, T_, T_, T_, T_, T_, T_, T_, T_, T_, T_, T_, T_, T_, T_, T_, T_, T_, T_, T_] rfl rfl (any_of HT_.out (by kernel_rfl)) (fun _ _ _ h => h) (Or.inl ⟨by rfl, ?_⟩) ?_ ?_
    rotate_left
    ·intro w'
     go_simp
     with_reducible rfl
    rotate_left
    ·simp only [Act.put, la_, lz_, ls_, i64_w, i32_w]
     rfl
    refine done_ (done_of HT_.out (by kernel_rfl)) ?_
   ·have hnb2130241253 := NB241_253.out
    have hnc2130241253 := NB253_241.out
    obtain ⟨_, _, _, _, _, _, _, _⟩ := cells4_ BK241.out
    try go_wp2
    refine bodyPost_ret (results_ct rfl _ _ gb241 40 #[.int .i64 0, .int .i64 0, .int .i64 0, .slice none 0 0] (0, 0) _ rfl (by (with_reducible repeat (first | refine bn_ ?_ _ | refine bw_ ?_ | refine ba_ ?_ _)); refine blk_put (cs := #[.int .i64 0, .int .i64 0, .int .i64 0, .slice none 0 0]) ?_ 3 _ rfl; (with_reducible repeat (first | refine bn_ ?_ _ | refine bw_ ?_ | refine ba_ ?_ _)); refine blk_put (cs := #[.int .i64 0, .int .i64 0, .int .i64 0, .slice none 0 0]) ?_ 2 _ rfl; (with_reducible repeat (first | refine bn_ ?_ _ | refine bw_ ?_ | refine ba_ ?_ _)); refine blk_put (cs := #[.int .i64 0, .int .i64 0, .int .i64 0, .slice none 0 0]) ?_ 1 _ rfl; (with_reducible repeat (first | refine bn_ ?_ _ | refine bw_ ?_ | refine ba_ ?_ _)); refine blk_put (cs := #[.int .i64 0, .int .i64 0, .int .i64 0, .slice none 0 0]) ?_ 0 _ rfl; (with_reducible repeat (first | refine bn_ ?_ _ | refine bw_ ?_ | refine ba_ ?_ _)); exact BK241.out) Try.underlying40 rfl (by kernel_rfl)) rfl ?_
    exact ⟨_, by first | rfl | (simp [errW_none, errW_some] <;> rfl) | (simp only [← hji22]; first | rfl | (simp [errW_none, errW_some] <;> rfl)) | (simp [*, errW_none, errW_some] <;> rfl), by first | exact Kd.R_nil _ _ _ _ _ | exact Kd.N_nil _ _ _ _ _ | exact Kd.V_nil _ _ _ _ _ | exact Kd.Q_nil _ _ _ _ _ | exact Kd.S_nil _ _ _ _ _, us_ HB.out⟩
   ·have hnb2130241253 := NB253_241.out
    have hnc2130241253 := NB241_253.out
    obtain ⟨_, _, _, _, _, _, _, _⟩ := cells4_ BK253.out
    obtain ⟨_, _, _, _, _, _, _, _⟩ := cells4_ BK241.out
    try go_wp2
    refine bodyPost_ret (results_ct rfl _ _ gb241 40 #[.int .i64 a0, .int .i64 (wrap64 (rd l2 0)), .int .i64 (wrap64 (rd l2 1)), .slice Ao1850252 y250.length co1850252] (0, 0) _ rfl (by (with_reducible repeat (first | refine bn_ ?_ _ | refine bw_ ?_ | refine ba_ ?_ _)); refine blk_put (cs := #[.int .i64 a0, .int .i64 (wrap64 (rd l2 0)), .int .i64 (wrap64 (rd l2 1)), .slice none 0 0]) ?_ 3 _ rfl; (with_reducible repeat (first | refine bn_ ?_ _ | refine bw_ ?_ | refine ba_ ?_ _)); refine blk_put (cs := #[.int .i64 a0, .int .i64 (wrap64 (rd l2 0)), .int .i64 0, .slice none 0 0]) ?_ 2 _ rfl; (with_reducible repeat (first | refine bn_ ?_ _ | refine bw_ ?_ | refine ba_ ?_ _)); refine blk_put (cs := #[.int .i64 a0, .int .i64 0, .int .i64 0, .slice none 0 0]) ?_ 1 _ rfl; (with_reducible repeat (first | refine bn_ ?_ _ | refine bw_ ?_ | refine ba_ ?_ _)); refine blk_put (cs := #[.int .i64 0, .int .i64 0, .int .i64 0, .slice none 0 0]) ?_ 0 _ rfl; (with_reducible repeat (first | refine bn_ ?_ _ | refine bw_ ?_ | refine ba_ ?_ _)); exact BK241.out) Try.underlying40 rfl (by kernel_rfl)) rfl ?_
    exact ⟨_, by first | rfl | (simp [errW_none, errW_some] <;> rfl) | (simp only [← hji22]; first | rfl | (simp [errW_none, errW_some] <;> rfl)) | (simp [*, errW_none, errW_some] <;> rfl), by (with_reducible repeat (first | apply Kd.R_alloc | apply Kd.R_drewN | apply Kd.R_drew)); exact Kd.R_mono (Kd.R_far (p := ⟨gb241, 3, none⟩) (Kd.R_far (p := ⟨gb241, 2, none⟩) (Kd.R_far (p := ⟨gb241, 1, none⟩) (Kd.R_far (p := ⟨gb241, 0, none⟩) (Kd.R_types HO252.out BK241.out (by decide)) (fun _ hk => hk.2) (.int .i64 a0)) (fun _ hk => hk.2) (.int .i64 (wrap64 (rd l2 0)))) (fun _ hk => hk.2) (.int .i64 (wrap64 (rd l2 1)))) (fun _ hk => hk.2) (.slice Ao1850252 y250.length co1850252)) (fun _ hk => trivial), us_ HB.out⟩

end Go.Proofs.Ytkkibccnpkbbjaa.MFnExactPortHear
