/- Functions that the law FnPortsOk reaches, each with the proof that the machine's call comes to just its answer; no conditions but those that each theorem states. Printed by a program of this session over the kit's print. -/
import Derived.Test.YtkkibccnpkbbjaaMFnPortsOkx0
import Derived.Test.YtkkibccnpkbbjaaMFnPortsOkx1
import Derived.Test.YtkkibccnpkbbjaaMFnPortsOkx4
import Derived.Test.YtkkibccnpkbbjaaMFnPortsOkx5
namespace Go.Proofs.Ytkkibccnpkbbjaa.MFnPortsOk
open Go.RowKit Go.Proofs.YtkkibccnpkbbjaaV.PrintWords Go.Proofs.YtkkibccnpkbbjaaV.PrintLast Go.Proofs.YtkkibccnpkbbjaaV.PrintMore
attribute [local go_sem] max2_int min2_int max_two min_two max_three min_three max_four min_four   -- for this text's walks alone
set_option linter.unusedVariables false
set_option linter.unusedSimpArgs false

/-! ### spec_MailFrom: function 64 -/
def spec_MailFrom.j0 : Nat → Int → Int → List Int → Bool → Option (Int × Int × Int × List Int × Bool)
 | 0, _, _, _, _ => none
 | k + 1, x0, x1, x2, x21 => if x21 = true then (some (0, 0, 0, ([] : List Int), false)) else (if 0 < (x2.length : Int) then (if 1 < (x2.length : Int) then ((some (([] : List Int) : List Int)).bind fun y215 => (if 3 ≤ (wrap64 ((x2.length : Int) - 2)) then (if (wrap64 ((x2.length : Int) - 2)) ≤ (x2.length : Int) then (if y215.length + ((x2.take ((wrap64 ((x2.length : Int) - 2)) : Int).toNat).drop 3).length < 140737488355328 then ((some (y215 ++ ((x2.take ((wrap64 ((x2.length : Int) - 2)) : Int).toNat).drop 3) : List Int)).bind fun y219 => ((spec_MailOk.f x0 (wrap64 (rd x2 0)) (wrap64 (rd x2 1)) y219).bind fun t223 => (if t223 = true then (if 2 < (x2.length : Int) then (if (wrap64 (rd x2 2)) = (y219.length : Int) then ((spec_NumberAt.f k x2 (wrap64 ((x2.length : Int) - 2)) 2).bind fun t225 => (if 0 ≤ (wrap64 ((x2.length : Int) - 2)) then ((spec_l9Sum.f k x0 x1 (x2.take ((wrap64 ((x2.length : Int) - 2)) : Int).toNat)).bind fun t227 => (if t225 = t227 then (some (x0, wrap64 (rd x2 0), wrap64 (rd x2 1), y219, true)) else (some (0, 0, 0, ([] : List Int), false)))) else (none))) else (some (0, 0, 0, ([] : List Int), false))) else (none)) else (some (0, 0, 0, ([] : List Int), false))))) else (none)) else (none)) else (none))) else (none)) else (none))
def spec_MailFrom.f (k : Nat) (a0 : Int) (a1 : Int) (l2 : List Int) : Option (Int × Int × Int × List Int × Bool) := if (l2.length : Int) < 5 then (spec_MailFrom.j0 k a0 a1 l2 true) else ((spec_l1In.f a0 0 65535).bind fun t211 => (if t211 = true then ((spec_l1In.f a1 0 65535).bind fun t212 => (spec_MailFrom.j0 k a0 a1 l2 (!t212))) else (spec_MailFrom.j0 k a0 a1 l2 true)))
theorem spec_MailFrom.mono_l : ∀ k, (∀ y0 y1 y2 y3, LeO (spec_MailFrom.j0 k y0 y1 y2 y3) (spec_MailFrom.j0 (k + 1) y0 y1 y2 y3))
 | 0 => fun _ _ _ _ r h => by simp [spec_MailFrom.j0] at h
 | k + 1 => by
  have ih0 := spec_MailFrom.mono_l k
  ·intro y0 y1 y2 y3
   unfold spec_MailFrom.j0
   repeat' first
   | (with_reducible exact ih0 _ _ _ _)
   | (with_reducible exact spec_NumberAt.mono _ _ _ _)
   | (with_reducible exact spec_l9Sum.mono _ _ _ _)
   | (with_reducible exact LeO.refl _)
   | (with_reducible exact LeO.none _)
   | (with_reducible refine LeO.ite ?_ ?_)
   | (with_reducible refine LeO.bind ?_ (fun _ => ?_))
   | exact ih0 _ _ _ _
   | exact spec_NumberAt.mono _ _ _ _
   | exact spec_l9Sum.mono _ _ _ _
   | exact LeO.none _
   | refine LeO.ite ?_ ?_
   | refine LeO.bind ?_ (fun _ => ?_)
theorem spec_MailFrom.mono : ∀ a0 a1 a2 k, LeO (spec_MailFrom.f k a0 a1 a2) (spec_MailFrom.f (k + 1) a0 a1 a2) := by
 intro a0 a1 a2 k
 have ih0 := spec_MailFrom.mono_l k
 unfold spec_MailFrom.f
 repeat' first
   | (with_reducible exact ih0 _ _ _ _)
   | (with_reducible exact spec_NumberAt.mono _ _ _ _)
   | (with_reducible exact spec_l9Sum.mono _ _ _ _)
   | (with_reducible exact LeO.refl _)
   | (with_reducible exact LeO.none _)
   | (with_reducible refine LeO.ite ?_ ?_)
   | (with_reducible refine LeO.bind ?_ (fun _ => ?_))
   | exact ih0 _ _ _ _
   | exact spec_NumberAt.mono _ _ _ _
   | exact spec_l9Sum.mono _ _ _ _
   | exact LeO.none _
   | refine LeO.ite ?_ ?_
   | refine LeO.bind ?_ (fun _ => ?_)
def spec_MailFrom.T3 : Bool × List (List Nat × List Nat) := (true, [([], []), ([], []), ([1], [1]), ([2], [2]), ([3], [3]), ([], []), ([5], [5]), ([6], [6]), ([7], [7]), ([], []), ([], []), ([], []), ([11], [11]), ([12], [12]), ([10, 13], [10, 13]), ([9, 14], [9, 14]), ([0, 4, 8, 15], [0, 4, 8, 15]), ([], []), ([17, 16, 15, 0, 1, 2, 3, 4, 5, 6, 7, 8, 9, 10, 11, 12, 13, 14, 15, 16, 17], [16, 17])])
def spec_MailFrom.B3 : List Nat := [0, 0, 2, 6, 14, 0, 32, 96, 224, 0, 0, 0, 2048, 6144, 15360, 32256, 65535, 0, 262143]
theorem spec_MailFrom.tab3 : rtab .any (opsOf Try.f64 3) = spec_MailFrom.T3 := by kernel_rfl
theorem spec_MailFrom.bits3 : waitsOk spec_MailFrom.T3.2 spec_MailFrom.B3 = true := by kernel_rfl
def spec_MailFrom.T4 : Bool × List (List Nat × List Nat) := (true, [([], []), ([0], [0]), ([1], [1]), ([2, 1], [2]), ([3], [3]), ([4, 3], [3, 4]), ([5, 3], [3, 5]), ([6, 3], [3, 6]), ([3], [3]), ([8, 3], [3, 8]), ([9, 3], [3, 9]), ([7, 10, 3], [3, 7, 10]), ([3, 11], [3, 11]), ([12, 3], [12]), ([13], [13]), ([13], [13]), ([15, 13], [13, 15]), ([16, 13], [13, 16]), ([14, 17, 13, 13], [13, 14, 17]), ([13], [13]), ([13], [13]), ([13], [13]), ([13], [13]), ([22, 13], [13, 22]), ([23, 13], [13, 23]), ([21, 24, 13], [13, 21, 24]), ([19, 20, 25, 18, 13], [13, 19, 20, 25]), ([18, 26, 13], [13, 18, 26]), ([13, 27], [13, 27])])
def spec_MailFrom.B4 : List Nat := [0, 1, 3, 7, 15, 31, 63, 127, 15, 271, 783, 2047, 4095, 8191, 16383, 16383, 49151, 114687, 262143, 16383, 16383, 16383, 16383, 4210687, 12599295, 31473663, 67108863, 134217727, 268435455]
theorem spec_MailFrom.tab4 : rtab .any (opsOf Try.f64 4) = spec_MailFrom.T4 := by kernel_rfl
theorem spec_MailFrom.bits4 : waitsOk spec_MailFrom.T4.2 spec_MailFrom.B4 = true := by kernel_rfl
set_option maxHeartbeats 8000000 in
set_option maxRecDepth 100000 in
theorem spec_MailFrom.calls (k : Nat) (a0 : Int) (a1 : Int) (A2 : Option Addr) (c2 : Nat) (l2 : List Int) (r1 : Int) (r2 : Int) (r3 : Int) (r4 : List Int) (r5 : Bool) (w : World) (hr2 : Kd.C (Kd.int .u8) w A2 l2.length l2) (hc2 : l2.length ≤ c2) (h : spec_MailFrom.f k a0 a1 l2 = some (r1, r2, r3, r4, r5)) :
  Calls Try.prog 64 #[.int .i64 a0, .int .i64 a1, .slice A2 l2.length c2] w fun e w' => ∃ v3_ : Value, e = .returned (.tuple #[.agg #[.int .i64 r1, .int .i64 r2, .int .i64 r3, v3_], .bool r5]) ∧ Kd.R (Kd.int .u8) 5 w' w.heap.size (fun _ => True) v3_ r4 ∧ Below w.heap.size w w' := by
 have hu40 := Try.underlying40
 have HR2 := mk_ hr2
 have HC2 := mk_ hc2
 clear hr2 hc2
 have HB := mk_ (Below.refl w.heap.size w)
 have H := h
 unfold spec_MailFrom.f at H
 clear h
 have HC4 := mk_ H
 clear H
 go_enter Try.func64, Try.ntmps64
 go_upto_region 1 with (first | ((with_reducible refine gate_dst (N := 6) rfl ?_); refine box_event ?hg (N := 6) ?hd (cs := #[.int .i64 0, .int .i64 0, .int .i64 0, .slice none 0 0]) (t := 40) ?hr ?_; (case hd => rfl); (case hg => rfl); (case hr => first | (go_simp; done) | (go_simp; rfl)); intro gb210 hg w5 hbox hb; have n0_ := mk_ (below_step (ub_ HB.out) hb); have BK210 := mk_ (hbox); have GW210 := mk_ ((by rw [hg]; exact (below_size (ub_ HB.out)) : w.heap.size ≤ gb210)); have GE210 := ge_ ((by rw [hg]; exact (below_size (ub_ HB.out)) : w.heap.size ≤ gb210)); replace HB := n0_; clear n0_; clear hb hbox hg))
 (try simp only [Act.put, la_, lz_, ls_])
 go_cut [21] (fun v21 wc => ∃ (kq : Nat) (x21_3 : Bool), v21 = .bool x21_3 ∧ Aside0 (spec_MailFrom.j0 kq a0 a1 l2 x21_3 = some (r1, r2, r3, r4, r5)) ∧ Aside0 (kq ≤ k) ∧ Aside0 (wc.heap[gb210]? = some (.cells #[.int .i64 0, .int .i64 0, .int .i64 0, (.slice none 0 0)] 40 (0, 0))) ∧ Aside0 (Below w.heap.size w wc))
 case first =>
  have H := HC4.out
  clear HC4
  by_cases c6 : (l2.length : Int) < 5
  ·rw [if_pos c6] at H
   have c6b0 : decide ((l2.length : Int) < 5) = true := decide_eq_true c6
   have c6b1 : decide (l2.length < 5) = true := decide_eq_true (by omega)
   clear c6
   (first | rw [c6b0] | (simp only [i64_w, i32_w]; rw [c6b0]) | skip)
   have H' := mk_ H
   clear H
   go_wp2
   go_meet
   case rel => exact ⟨_, (true), (by first | rfl | (simp; done) | (simp [*]; done)), H', ⟨by first | omega | exact Nat.le_refl _⟩, ⟨u_ BK210.out⟩, ⟨us_ HB.out⟩⟩
  rw [if_neg c6] at H
  have c6b0 : decide ((l2.length : Int) < 5) = false := decide_eq_false c6
  have c6b1 : decide (l2.length < 5) = false := decide_eq_false (by omega)
  clear c6
  (first | rw [c6b0] | (simp only [i64_w, i32_w]; rw [c6b0]) | skip)
  replace H := Option.bind_eq_some_iff.mp H
  obtain ⟨t211, A70, H⟩ := H
  (try dsimp only at H)
  have A7 := mk_ A70
  clear A70
  by_cases c8 : t211 = true
  rotate_left
  ·replace c8 := Bool.eq_false_iff.mpr c8
   subst c8
   rw [if_neg (show ¬ (false = true) by decide)] at H
   have H' := mk_ H
   clear H
   go_wp2_with (first | (go_at_call 40; (with_reducible refine (spec_l1In.calls a0 0 65535 false _ A7.out).mono ?_); rintro e w' ⟨rfl, ⟨nd, rfl⟩⟩))
   go_meet
   case rel => exact ⟨_, (true), (by first | rfl | (simp; done) | (simp [*]; done)), H', ⟨by first | omega | exact Nat.le_refl _⟩, ⟨u_ BK210.out⟩, ⟨us_ HB.out⟩⟩
  subst c8
  rw [if_pos rfl] at H
  replace H := Option.bind_eq_some_iff.mp H
  obtain ⟨t212, A90, H⟩ := H
  replace H : (spec_MailFrom.j0 k a0 a1 l2 (!t212)) = some (r1, r2, r3, r4, r5) := H
  have A9 := mk_ A90
  clear A90
  have H' := mk_ H
  clear H
  go_wp2_with (first | (go_at_call 40; have hA_ := A7.out; (with_reducible refine (spec_l1In.calls a0 0 65535 true _ A7.out).mono ?_); rintro e w' ⟨rfl, ⟨nd, rfl⟩⟩; clear hA_ A7) | (go_at_call 40; have hA_ := A9.out; (with_reducible refine (spec_l1In.calls a1 0 65535 t212 _ A9.out).mono ?_); rintro e w' ⟨rfl, ⟨nd, rfl⟩⟩; clear hA_ A9))
  go_meet
  case rel => exact ⟨_, (!t212), (by first | rfl | (simp; done) | (simp [*]; done)), H', ⟨by first | omega | exact Nat.le_refl _⟩, ⟨u_ BK210.out⟩, ⟨us_ HB.out⟩⟩
 case rest =>
  clear HC4
  try clear c2
  try clear p2
  try clear c6
  try clear c6b0
  try clear c6b1
  try clear c8
  obtain ⟨kq, x21_3, rfl, HA, HJ3, BK210, HB⟩ := hcut
  cases kq with
  | zero => exact absurd HA.out (by simp [spec_MailFrom.j0])
  | succ kj3 =>
   have H := HA.out
   clear HA
   simp only [spec_MailFrom.j0] at H
   by_cases c10 : x21_3 = true
   focus
    subst c10
    rw [if_pos rfl] at H
    simp only [Option.some.injEq, Prod.mk.injEq] at H
    obtain ⟨rfl, rfl, rfl, rfl, rfl⟩ := H
    obtain ⟨_, _, _, _, _, _, _, _⟩ := cells4_ BK210.out
   rotate_left
   focus
    replace c10 := Bool.eq_false_iff.mpr c10
    subst c10
    rw [if_neg (show ¬ (false = true) by decide)] at H
    by_cases c12 : 0 < (l2.length : Int)
    rotate_left
    ·rw [if_neg c12] at H
     exact absurd H (by simp)
    rw [if_pos c12] at H
    have c12b0 : decide (0 < (l2.length : Int)) = true := decide_eq_true c12
    have c12b1 : decide (0 < l2.length) = true := decide_eq_true (by omega)
    clear c12
    by_cases c13 : 1 < (l2.length : Int)
    rotate_left
    ·rw [if_neg c13] at H
     exact absurd H (by simp)
    rw [if_pos c13] at H
    have c13b0 : decide (1 < (l2.length : Int)) = true := decide_eq_true c13
    have c13b1 : decide (1 < l2.length) = true := decide_eq_true (by omega)
    clear c13
    obtain ⟨y215, hy215⟩ : ∃ y_ : List Int, y_ = (([] : List Int)) := ⟨_, rfl⟩
    replace H : (if 3 ≤ (wrap64 ((l2.length : Int) - 2)) then (if (wrap64 ((l2.length : Int) - 2)) ≤ (l2.length : Int) then (if y215.length + ((l2.take ((wrap64 ((l2.length : Int) - 2)) : Int).toNat).drop 3).length < 140737488355328 then ((some (y215 ++ ((l2.take ((wrap64 ((l2.length : Int) - 2)) : Int).toNat).drop 3) : List Int)).bind fun y219 => ((spec_MailOk.f a0 (wrap64 (rd l2 0)) (wrap64 (rd l2 1)) y219).bind fun t223 => (if t223 = true then (if 2 < (l2.length : Int) then (if (wrap64 (rd l2 2)) = (y219.length : Int) then ((spec_NumberAt.f kj3 l2 (wrap64 ((l2.length : Int) - 2)) 2).bind fun t225 => (if 0 ≤ (wrap64 ((l2.length : Int) - 2)) then ((spec_l9Sum.f kj3 a0 a1 (l2.take ((wrap64 ((l2.length : Int) - 2)) : Int).toNat)).bind fun t227 => (if t225 = t227 then (some (a0, wrap64 (rd l2 0), wrap64 (rd l2 1), y219, true)) else (some (0, 0, 0, ([] : List Int), false)))) else (none))) else (some (0, 0, 0, ([] : List Int), false))) else (none)) else (some (0, 0, 0, ([] : List Int), false))))) else (none)) else (none)) else (none)) = some (r1, r2, r3, r4, r5) := by first | (rw [hy215]; with_reducible exact H) | (have H2_ := (Option.bind_some _ _).symm.trans H; rw [hy215]; with_reducible exact H2_) | (have H2_ := (Option.bind_some _ _).symm.trans H; with_reducible exact H2_) | with_reducible exact H | (rw [hy215]; exact H) | exact H
    have Ny215 := mk_ hy215
    clear hy215
    by_cases c14 : 3 ≤ (wrap64 ((l2.length : Int) - 2))
    rotate_left
    ·rw [if_neg c14] at H
     exact absurd H (by simp)
    rw [if_pos c14] at H
    have c14b0 := eq_true c14
    have c14b1 : decide (3 ≤ (wrap64 ((l2.length : Int) - 2))) = true := decide_eq_true c14
    clear c14
    by_cases c15 : (wrap64 ((l2.length : Int) - 2)) ≤ (l2.length : Int)
    rotate_left
    ·rw [if_neg c15] at H
     exact absurd H (by simp)
    rw [if_pos c15] at H
    have c15b0 := eq_true c15
    have c15b1 : decide ((wrap64 ((l2.length : Int) - 2)) ≤ (l2.length : Int)) = true := decide_eq_true c15
    clear c15
    by_cases c16 : y215.length + ((l2.take ((wrap64 ((l2.length : Int) - 2)) : Int).toNat).drop 3).length < 140737488355328
    rotate_left
    ·rw [if_neg c16] at H
     exact absurd H (by simp)
    rw [if_pos c16] at H
    have LMc16 := mk_ c16
    clear c16
    obtain ⟨y219, hy219⟩ : ∃ y_ : List Int, y_ = (y215 ++ ((l2.take ((wrap64 ((l2.length : Int) - 2)) : Int).toNat).drop 3)) := ⟨_, rfl⟩
    replace H : ((spec_MailOk.f a0 (wrap64 (rd l2 0)) (wrap64 (rd l2 1)) y219).bind fun t223 => (if t223 = true then (if 2 < (l2.length : Int) then (if (wrap64 (rd l2 2)) = (y219.length : Int) then ((spec_NumberAt.f kj3 l2 (wrap64 ((l2.length : Int) - 2)) 2).bind fun t225 => (if 0 ≤ (wrap64 ((l2.length : Int) - 2)) then ((spec_l9Sum.f kj3 a0 a1 (l2.take ((wrap64 ((l2.length : Int) - 2)) : Int).toNat)).bind fun t227 => (if t225 = t227 then (some (a0, wrap64 (rd l2 0), wrap64 (rd l2 1), y219, true)) else (some (0, 0, 0, ([] : List Int), false)))) else (none))) else (some (0, 0, 0, ([] : List Int), false))) else (none)) else (some (0, 0, 0, ([] : List Int), false)))) = some (r1, r2, r3, r4, r5) := by first | (rw [hy219]; with_reducible exact H) | (have H2_ := (Option.bind_some _ _).symm.trans H; rw [hy219]; with_reducible exact H2_) | (have H2_ := (Option.bind_some _ _).symm.trans H; with_reducible exact H2_) | with_reducible exact H | (rw [hy219]; exact H) | exact H
    have Ny219 := mk_ hy219
    clear hy219
    replace H := Option.bind_eq_some_iff.mp H
    obtain ⟨t223, A170, H⟩ := H
    (try dsimp only at H)
    have A17 := mk_ A170
    clear A170
    by_cases c18 : t223 = true
    rotate_left
    focus
     replace c18 := Bool.eq_false_iff.mpr c18
     subst c18
     rw [if_neg (show ¬ (false = true) by decide)] at H
     simp only [Option.some.injEq, Prod.mk.injEq] at H
     obtain ⟨rfl, rfl, rfl, rfl, rfl⟩ := H
    rotate_left
    focus
     subst c18
     rw [if_pos rfl] at H
     by_cases c19 : 2 < (l2.length : Int)
     rotate_left
     ·rw [if_neg c19] at H
      exact absurd H (by simp)
     rw [if_pos c19] at H
     have c19b0 : decide (2 < (l2.length : Int)) = true := decide_eq_true c19
     have c19b1 : decide (2 < l2.length) = true := decide_eq_true (by omega)
     clear c19
     by_cases c20 : (wrap64 (rd l2 2)) = (y219.length : Int)
     rotate_left
     focus
      rw [if_neg c20] at H
      have c20b0 : ((wrap64 (rd l2 2)) == (y219.length : Int)) = false := beq_eq_false_iff_ne.mpr c20
      have c20b1 : ((wrap64 (rd l2 2)) != (y219.length : Int)) = true := bne_iff_ne.mpr c20
      simp only [Option.some.injEq, Prod.mk.injEq] at H
      obtain ⟨rfl, rfl, rfl, rfl, rfl⟩ := H
     rotate_left
     focus
      rw [if_pos c20] at H
      have c20b0 : ((wrap64 (rd l2 2)) == (y219.length : Int)) = true := beq_iff_eq.mpr c20
      have c20b1 : ((wrap64 (rd l2 2)) != (y219.length : Int)) = false := bne_eq_false_iff_eq.mpr c20
      clear c20
      replace H := Option.bind_eq_some_iff.mp H
      obtain ⟨t225, A210, H⟩ := H
      (try dsimp only at H)
      have A21 := mk_ A210
      clear A210
      obtain ⟨ji22, hji22⟩ : ∃ j_ : Int, (wrap64 ((l2.length : Int) - 2)) = j_ := ⟨_, rfl⟩
      replace H : (if 0 ≤ (ji22) then ((spec_l9Sum.f kj3 a0 a1 (l2.take ((ji22) : Int).toNat)).bind fun t227 => (if t225 = t227 then (some (a0, wrap64 (rd l2 0), wrap64 (rd l2 1), y219, true)) else (some (0, 0, 0, ([] : List Int), false)))) else (none)) = some (r1, r2, r3, r4, r5) := by first | (rw [hji22] at H; exact H) | (simp only [hji22] at H ⊢; exact H)
      (try rw [hji22] at c14b0)
      (try rw [hji22] at c14b1)
      (try rw [hji22] at c15b0)
      (try rw [hji22] at c15b1)
      (try rw [hji22] at LMc16)
      (try rw [hji22] at Ny219)
      (try rw [hji22] at Ny219)
      (try rw [hji22] at Ny219)
      (try rw [hji22] at A17)
      (try rw [hji22] at Ny219)
      (try rw [hji22] at A21)
      have hji22w : (IntKind.i64.wrap ((l2.length : Int) - 2)) = ji22 := (i64_w _).trans hji22
      by_cases c23 : 0 ≤ (ji22)
      rotate_left
      ·rw [if_neg c23] at H
       exact absurd H (by simp)
      rw [if_pos c23] at H
      have c23b0 := eq_true c23
      have c23b1 : decide (0 ≤ (ji22)) = true := decide_eq_true c23
      clear c23
      have c24b0 := eq_true (of_decide_eq_true (by first | (with_reducible assumption) | assumption) : (ji22) ≤ (l2.length : Int))
      replace H := Option.bind_eq_some_iff.mp H
      obtain ⟨t227, A250, H⟩ := H
      (try dsimp only at H)
      have A25 := mk_ A250
      clear A250
      by_cases c26 : t225 = t227
      rotate_left
      focus
       rw [if_neg c26] at H
       have c26b0 : (t225 == t227) = false := beq_eq_false_iff_ne.mpr c26
       have c26b1 : (t225 != t227) = true := bne_iff_ne.mpr c26
       simp only [Option.some.injEq, Prod.mk.injEq] at H
       obtain ⟨rfl, rfl, rfl, rfl, rfl⟩ := H
      rotate_left
      focus
       rw [if_pos c26] at H
       have c26b0 : (t225 == t227) = true := beq_iff_eq.mpr c26
       have c26b1 : (t225 != t227) = false := bne_eq_false_iff_eq.mpr c26
       clear c26
       simp only [Option.some.injEq, Prod.mk.injEq] at H
       obtain ⟨rfl, rfl, rfl, rfl, rfl⟩ := H
      rotate_left
     rotate_left 2
    rotate_left 3
   rotate_left 4
   all_goals
    try go_wp2
   ·refine bodyPost_ret (results_ct rfl _ _ gb210 40 #[.int .i64 0, .int .i64 0, .int .i64 0, .slice none 0 0] (0, 0) _ rfl (by (with_reducible repeat (first | refine bn_ ?_ _ | refine bw_ ?_ | refine ba_ ?_ _)); refine blk_put (cs := #[.int .i64 0, .int .i64 0, .int .i64 0, .slice none 0 0]) ?_ 3 _ rfl; (with_reducible repeat (first | refine bn_ ?_ _ | refine bw_ ?_ | refine ba_ ?_ _)); refine blk_put (cs := #[.int .i64 0, .int .i64 0, .int .i64 0, .slice none 0 0]) ?_ 2 _ rfl; (with_reducible repeat (first | refine bn_ ?_ _ | refine bw_ ?_ | refine ba_ ?_ _)); refine blk_put (cs := #[.int .i64 0, .int .i64 0, .int .i64 0, .slice none 0 0]) ?_ 1 _ rfl; (with_reducible repeat (first | refine bn_ ?_ _ | refine bw_ ?_ | refine ba_ ?_ _)); refine blk_put (cs := #[.int .i64 0, .int .i64 0, .int .i64 0, .slice none 0 0]) ?_ 0 _ rfl; (with_reducible repeat (first | refine bn_ ?_ _ | refine bw_ ?_ | refine ba_ ?_ _)); exact BK210.out) Try.underlying40 rfl (by kernel_rfl)) rfl ?_
    exact ⟨_, by first | rfl | (simp [errW_none, errW_some] <;> rfl) | (simp [*, errW_none, errW_some] <;> rfl), by first | exact Kd.R_nil _ _ _ _ _ | exact Kd.N_nil _ _ _ _ _ | exact Kd.V_nil _ _ _ _ _ | exact Kd.Q_nil _ _ _ _ _ | exact Kd.S_nil _ _ _ _ _, us_ HB.out⟩
   all_goals
    have n0_ := mk_ (blk_drew BK210.out)
    have n1_ := mk_ (below_drew1 HB.out)
    clear BK210
    clear HB
    have BK210 := n0_
    have HB := n1_
    clear n0_ n1_
    have p19240 : 0 ≤ (0 : Int) := (by omega)
    have q19240 : 0 < (l2.length : Int) := of_decide_eq_true (by first | (with_reducible assumption) | assumption)
    obtain ⟨ad19240, e19240, hx213_0⟩ := Kd.at_int HR2.out 0 p19240 q19240
    have hw213_0 := hx213_0
    (try rw [show ((0 : Int)).toNat = 0 from rfl] at hw213_0)
    (try rw [show 0 * 1 = 0 from rfl] at hw213_0)
    (try rw [Addr.add_zero'] at hw213_0)
    cases e19240
    have qi19240 : (0 < l2.length) = True := eq_true (by omega)
    (try rw [show ((0 : Int)).toNat = 0 from rfl] at hx213_0)
    (try rw [Addr.add_zero'] at hx213_0)
    replace hx213_0 := (HB.out.cell (lc_ w _ hx213_0)).trans hx213_0
    replace p19240 := eq_true p19240
    replace q19240 := eq_true q19240
    have p19600 : 0 ≤ (1 : Int) := (by omega)
    have q19600 : 1 < (l2.length : Int) := of_decide_eq_true (by first | (with_reducible assumption) | assumption)
    obtain ⟨ad19600, e19600, hx214_0⟩ := Kd.at_int HR2.out 1 p19600 q19600
    have hw214_0 := hx214_0
    (try rw [show ((1 : Int)).toNat = 1 from rfl] at hw214_0)
    (try rw [show 1 * 1 = 1 from rfl] at hw214_0)
    (try simp only [Nat.reduceMul, Nat.reduceEqDiff, Go.Addr.add, ↓reduceIte] at hw214_0)
    obtain rfl : ad19240 = ad19600 := (by injection e19600)
    (try simp only [show (1 : Int).toNat = 1 from rfl, Nat.reduceMul, Nat.reduceEqDiff, Go.Addr.add, ↓reduceIte] at hx214_0)
    have qi19600 : (1 < l2.length) = True := eq_true (by omega)
    (try rw [show ((1 : Int)).toNat = 1 from rfl] at hx214_0)
    replace hx214_0 := (HB.out.cell (lc_ w _ hx214_0)).trans hx214_0
    replace p19600 := eq_true p19600
    replace q19600 := eq_true q19600
    obtain ⟨i19960, hi19960, _, hsz19961, _⟩ := info_parts info5
   iterate 2
    focus
     obtain ⟨A19961, hcut19961, hA19961, hC19961⟩ := print_mid_of (P := Try.prog) (Value.int .u8) 0 29 5 .i64 .i64 Try.underlying29 hi19960 hsz19961 (some ad19240) c2 l2 3 (wrap64 ((l2.length : Int) - 2)) (by omega) (by first | omega | exact of_decide_eq_true (by first | (with_reducible assumption) | assumption)) (of_decide_eq_true (by first | (with_reducible assumption) | assumption)) HC2.out
     have HR20040 := mk_ (Kd.C_of_reads (h1 := fun _ => rfl) (hA19961 _ (Kd.reads_of_C HR2.out)))
     have HC20040 := mk_ hC19961
     clear hA19961 hC19961 hi19960 hsz19961
     refine start_ (n := 19) (S := fun w' => w'.cell? ad19240 = some (.int .u8 (rd l2 0)) ∧ w'.cell? ⟨ad19240.block, ad19240.off + 1, none⟩ = some (.int .u8 (rd l2 1))) (ds := []) #[F_, F_, F_, F_, F_, F_, F_, F_, F_, F_, F_, F_, F_, F_, F_, F_, F_, F_, F_] (by kernel_rfl) rfl rfl ⟨((HB.out.cell (lc_ w _ hw213_0)).trans hw213_0), ((HB.out.cell (lc_ w _ hw214_0)).trans hw214_0)⟩ (fun hHeld => ?_); refine with_tabW spec_MailFrom.tab3 spec_MailFrom.bits3 (fun HT_ HW_ => ?_)
     generalize wc.drew = w20200 at BK210 HB HR20040 hx213_0 hx214_0 hHeld ⊢
     refine pure_ (i := 0) (N := some 23) (v := ?_) (a' := ?_) #[T_, F_, F_, F_, F_, F_, F_, F_, F_, F_, F_, F_, F_, F_, F_, F_, F_, F_, F_] rfl rfl (any_of HT_.out (by kernel_rfl)) (fun _ _ _ h => h) (Or.inl ⟨by rfl, ?_⟩) ?_ ?_
     rotate_left
     ·intro w'
      go_simp
      with_reducible rfl
     rotate_left
     ·simp only [Act.put, la_, lz_, ls_, i64_w, i32_w]
      rfl
     refine pure_ (i := 1) (N := some 24) (v := ?_) (a' := ?_) #[T_, T_, F_, F_, F_, F_, F_, F_, F_, F_, F_, F_, F_, F_, F_, F_, F_, F_, F_] rfl rfl (any_of HT_.out (by kernel_rfl)) (fun _ _ _ h => h) (Or.inl ⟨by rfl, ?_⟩) ?_ ?_
     rotate_left
     ·intro w'
      go_simp
      with_reducible rfl
     rotate_left
     ·simp only [Act.put, la_, lz_, ls_, i64_w, i32_w]
      rfl
     refine pure_ (i := 2) (N := some 25) (v := ?_) (a' := ?_) #[T_, T_, T_, F_, F_, F_, F_, F_, F_, F_, F_, F_, F_, F_, F_, F_, F_, F_, F_] rfl rfl (any_of HT_.out (by kernel_rfl)) (fun _ _ _ h => h) (Or.inl ⟨by rfl, ?_⟩) ?_ ?_
     rotate_left
     ·intro w'
      go_simp
      with_reducible rfl
     rotate_left
     ·simp only [Act.put, la_, lz_, ls_, i64_w, i32_w]
      rfl
     refine pure_ (i := 5) (N := some 28) (v := ?_) (a' := ?_) #[T_, T_, T_, F_, F_, T_, F_, F_, F_, F_, F_, F_, F_, F_, F_, F_, F_, F_, F_] rfl rfl (any_of HT_.out (by kernel_rfl)) (fun _ _ _ h => h) (Or.inl ⟨by rfl, ?_⟩) ?_ ?_
     rotate_left
     ·intro w'
      go_simp
      with_reducible rfl
     rotate_left
     ·simp only [Act.put, la_, lz_, ls_, i64_w, i32_w]
      rfl
     refine pure_ (i := 6) (N := some 29) (v := ?_) (a' := ?_) #[T_, T_, T_, F_, F_, T_, T_, F_, F_, F_, F_, F_, F_, F_, F_, F_, F_, F_, F_] rfl rfl (any_of HT_.out (by kernel_rfl)) (fun _ _ _ h => h) (Or.inl ⟨by rfl, ?_⟩) ?_ ?_
     rotate_left
     ·intro w'
      go_simp
      with_reducible rfl
     rotate_left
     ·simp only [Act.put, la_, lz_, ls_, i64_w, i32_w]
      rfl
     refine pure_ (i := 10) (N := some 33) (v := ?_) (a' := ?_) #[T_, T_, T_, F_, F_, T_, T_, F_, F_, F_, T_, F_, F_, F_, F_, F_, F_, F_, F_] rfl rfl (any_of HT_.out (by kernel_rfl)) (fun _ _ _ h => h) (Or.inl ⟨by rfl, ?_⟩) ?_ ?_
     rotate_left
     ·intro w'
      go_simp
      with_reducible rfl
     rotate_left
     ·simp only [Act.put, la_, lz_, ls_, i64_w, i32_w]
      rfl
     refine pure_ (i := 11) (N := some 34) (v := ?_) (a' := ?_) #[T_, T_, T_, F_, F_, T_, T_, F_, F_, F_, T_, T_, F_, F_, F_, F_, F_, F_, F_] rfl rfl (any_of HT_.out (by kernel_rfl)) (fun _ _ _ h => h) (Or.inl ⟨by rfl, ?_⟩) ?_ ?_
     rotate_left
     ·intro w'
      go_simp
      with_reducible rfl
     rotate_left
     ·simp only [Act.put, la_, lz_, ls_, i64_w, i32_w]
      rfl
     refine pure_ (i := 12) (N := some 35) (v := ?_) (a' := ?_) #[T_, T_, T_, F_, F_, T_, T_, F_, F_, F_, T_, T_, T_, F_, F_, F_, F_, F_, F_] rfl rfl (any_of HT_.out (by kernel_rfl)) (fun _ _ _ h => h) (Or.inl ⟨by rfl, ?_⟩) ?_ ?_
     rotate_left
     ·intro w'
      go_simp
      with_reducible rfl
     rotate_left
     ·simp only [Act.put, la_, lz_, ls_, i64_w, i32_w]
      rfl
     refine pure_ (i := 13) (N := some 36) (v := ?_) (a' := ?_) #[T_, T_, T_, F_, F_, T_, T_, F_, F_, F_, T_, T_, T_, T_, F_, F_, F_, F_, F_] rfl rfl (any_of HT_.out (by kernel_rfl)) (fun _ _ _ h => h) (Or.inl ⟨by rfl, ?_⟩) ?_ ?_
     rotate_left
     ·intro w'
      go_simp
      with_reducible rfl
     rotate_left
     ·simp only [Act.put, la_, lz_, ls_, i64_w, i32_w]
      rfl
     refine pure_ (i := 14) (N := some 37) (v := ?_) (a' := ?_) #[T_, T_, T_, F_, F_, T_, T_, F_, F_, F_, T_, T_, T_, T_, T_, F_, F_, F_, F_] rfl rfl (any_of HT_.out (by kernel_rfl)) (fun _ _ _ h => h) (Or.inl ⟨by rfl, ?_⟩) ?_ ?_
     rotate_left
     ·intro w'
      go_simp
      with_reducible rfl
     rotate_left
     ·simp only [Act.put, la_, lz_, ls_, i64_w, i32_w]
      rfl
     refine take_ (i := 3) (N := some 26) (v := ?_) (a' := ?_) #[T_, T_, T_, T_, F_, T_, T_, F_, F_, F_, T_, T_, T_, T_, T_, F_, F_, F_, F_] rfl rfl (take_ofW HT_.out HW_.out (by kernel_rfl)) (fun _ _ _ h => h) (Or.inl ⟨by rfl, ?_⟩) hHeld ?_ ?_
     rotate_left
     ·rintro w' ⟨s3320, s3321⟩
      go_simp
      with_reducible rfl
     rotate_left
     ·simp only [Act.put, la_, lz_, ls_, i64_w, i32_w]
      rfl
     refine pure_ (i := 4) (N := some 27) (v := ?_) (a' := ?_) #[T_, T_, T_, T_, T_, T_, T_, F_, F_, F_, T_, T_, T_, T_, T_, F_, F_, F_, F_] rfl rfl (any_of HT_.out (by kernel_rfl)) (fun _ _ _ h => h) (Or.inl ⟨by rfl, ?_⟩) ?_ ?_
     rotate_left
     ·intro w'
      go_simp
      with_reducible rfl
     rotate_left
     ·simp only [Act.put, la_, lz_, ls_, i64_w, i32_w]
      rfl
     refine take_ (i := 7) (N := some 30) (v := ?_) (a' := ?_) #[T_, T_, T_, T_, T_, T_, T_, T_, F_, F_, T_, T_, T_, T_, T_, F_, F_, F_, F_] rfl rfl (take_ofW HT_.out HW_.out (by kernel_rfl)) (fun _ _ _ h => h) (Or.inl ⟨by rfl, ?_⟩) hHeld ?_ ?_
     rotate_left
     ·rintro w' ⟨s3320, s3321⟩
      go_simp
      with_reducible rfl
     rotate_left
     ·simp only [Act.put, la_, lz_, ls_, i64_w, i32_w]
      rfl
     refine pure_ (i := 8) (N := some 31) (v := ?_) (a' := ?_) #[T_, T_, T_, T_, T_, T_, T_, T_, T_, F_, T_, T_, T_, T_, T_, F_, F_, F_, F_] rfl rfl (any_of HT_.out (by kernel_rfl)) (fun _ _ _ h => h) (Or.inl ⟨by rfl, ?_⟩) ?_ ?_
     rotate_left
     ·intro w'
      go_simp
      with_reducible rfl
     rotate_left
     ·simp only [Act.put, la_, lz_, ls_, i64_w, i32_w]
      rfl
     refine join_ (σ := Value × Value × Nat) 1 #[T_, T_, T_, T_, T_, T_, T_, T_, T_, T_, T_, T_, T_, T_, T_, T_, T_, T_, F_] (fun s_ => [(32, s_.1), (38, s_.2.1), (8, .pointer (some ⟨s_.2.2, 0, none⟩)), (39, .agg #[.int .i64 a0, .int .i64 (wrap64 (rd l2 0)), .int .i64 (wrap64 (rd l2 1)), s_.2.1])]) (fun s_ w' => (w'.cell? ad19240 = some (.int .u8 (rd l2 0)) ∧ w'.cell? ⟨ad19240.block, ad19240.off + 1, none⟩ = some (.int .u8 (rd l2 1))) ∧ (Kd.R (Kd.int .u8) 5 w' w.heap.size (fun _ => True) s_.2.1 y219) ∧ (w'.heap[gb210]? = some (.cells #[.int .i64 0, .int .i64 0, .int .i64 0, .slice none 0 0] 40 (0, 0))) ∧ (w'.heap[s_.2.2]? = some (.cells #[.int .i64 0, .int .i64 0, .int .i64 0, .slice none 0 0] 40 (0, 0))) ∧ (w.heap.size ≤ s_.2.2) ∧ (w.heap.size ≤ s_.2.2) ∧ (gb210 ≠ s_.2.2) ∧ (s_.2.2 ≠ gb210) ∧ (Below w.heap.size w w')) ?_ ?_
     rotate_left
     ·intro hCont
      refine two_ (i := 9) (j := 17) (Ni := some 32) (Nj := some 8) #[T_, T_, T_, T_, T_, T_, T_, T_, T_, T_, T_, T_, T_, T_, T_, F_, F_, F_, F_] #[T_, T_, T_, T_, T_, T_, T_, T_, T_, F_, T_, T_, T_, T_, T_, F_, F_, T_, F_] rfl rfl rfl rfl (two_of HT_.out (by kernel_rfl)) (by decide) (by decide) (fun K hK => ?_) (fun K hK => ?_)
      ·skip
       refine Kd.R_lit_step (Kd.int .u8) _ 5 ?hg (N := 32) ?hd (xs := ([] : List Int)) (inner := []) (ok := fun _ => True) (okp := fun _ => True) ?hr ?hp (fun _ hk => hk) trivial (Below.refl _ _) (Nat.le_refl _) (by simp) ?_; (case hd => rfl); (case hg => rfl); (case hr => first | (go_simp; done) | (go_simp; rfl)); (case hp => exact (Reps.none _ _))
       intro v20320 w20321 ho20322 hb hg_ hnew_
       clear hg_ hnew_
       (first | rw [← Ny215.out] at ho20322 | (simp only [Int.reduceToNat] at ho20322; rw [← Ny215.out] at ho20322))
       have n0_ := mk_ (Kd.R_lower ho20322 (below_size (us_ HB.out)))
       have n1_ := mk_ (blk_below (u_ BK210.out) hb)
       have n2_ := mk_ (below_step (us_ HB.out) hb)
       clear BK210
       clear HB
       have HO217 := n0_
       have BK210 := n1_
       have HB := n2_
       clear n0_ n1_ n2_
       clear hb ho20322
       refine hK.out _ _ ⟨((HB.out.cell (lc_ w _ hw213_0)).trans hw213_0), ((HB.out.cell (lc_ w _ hw214_0)).trans hw214_0)⟩ (fun hHeld => ?_)
       clear hK K
       refine norm_ (a' := ?_) ?_ ?_
       rotate_left
       ·show Act.put _ (some 32) _ = _
        simp only [Act.put, la_, lz_, ls_, i64_w, i32_w]
        rfl
       refine two_ (i := 15) (j := 17) (Ni := some 38) (Nj := some 8) #[T_, T_, T_, T_, T_, T_, T_, T_, T_, T_, T_, T_, T_, T_, T_, T_, F_, F_, F_] #[T_, T_, T_, T_, T_, T_, T_, T_, T_, T_, T_, T_, T_, T_, T_, F_, F_, T_, F_] rfl rfl rfl rfl (two_of HT_.out (by kernel_rfl)) (by decide) (by decide) (fun K hK => ?_) (fun K hK => ?_)
       ·skip
        refine Kd.R_append_rows_step (Kd.int .u8) (w0 := w) w.heap.size (by rfl) (.tmp 32) (.tmp 37) 29 5 (.int .u8 0) 1 rfl Try.underlying29 info5 rfl (by decide) (by omega) v20320 y215 ((l2.take ((wrap64 ((l2.length : Int) - 2)) : Int).toNat).drop 3) _ _ _ (fun _ => True) (fun _ => False) rfl rfl ?aO ?aR (fun _ _ h => h) (fun _ h => h.elim) ?aF ?aB ?aS ?aL ?_
        (case aR => first | (have e_ := (Kd.C_below HR20040.out HB.out); rw [show ((l2.take ((wrap64 ((l2.length : Int) - 2)) : Int).toNat).drop 3).length = ((wrap64 ((l2.length : Int) - 2)).toNat - 3) from (by rw [List.length_drop, List.length_take]; have h_ : ((wrap64 ((l2.length : Int) - 2)) : Int) ≤ (l2.length : Int) := of_decide_eq_true (by first | (with_reducible assumption) | assumption); omega)] at e_; exact e_) | (rw [← show ((l2.take ((wrap64 ((l2.length : Int) - 2)) : Int).toNat).drop 3).length = ((wrap64 ((l2.length : Int) - 2)).toNat - 3) from (by rw [List.length_drop, List.length_take]; have h_ : ((wrap64 ((l2.length : Int) - 2)) : Int) ≤ (l2.length : Int) := of_decide_eq_true (by first | (with_reducible assumption) | assumption); omega)]; repeat (first | exact (Kd.C_below HR20040.out HB.out) | (with_reducible refine Kd.C_alloc ?_ _) | (with_reducible refine Kd.C_drewN ?_ _) | (with_reducible refine Kd.C_drew ?_))) | (repeat (first | exact (Kd.C_below HR20040.out HB.out) | (with_reducible refine Kd.C_alloc ?_ _) | (with_reducible refine Kd.C_drewN ?_ _) | (with_reducible refine Kd.C_drew ?_))))
        (case aB => exact (us_ HB.out))
        (case aF => exact (fun _ _ => trivial))
        (case aO => exact (Kd.ur_ HO217.out))
        (case aS => exact (below_size (us_ HB.out)))
        (case aL => have := LMc16.out; have hlx_ := (show ((l2.take ((wrap64 ((l2.length : Int) - 2)) : Int).toNat).drop 3).length = ((wrap64 ((l2.length : Int) - 2)).toNat - 3) from (by rw [List.length_drop, List.length_take]; have h_ : ((wrap64 ((l2.length : Int) - 2)) : Int) ≤ (l2.length : Int) := of_decide_eq_true (by first | (with_reducible assumption) | assumption); omega)); omega)
        intro v20323 w20324 ho hb hg hat
        rw [← Ny219.out] at ho
        have n0_ := mk_ (blk_grown (g := gb210) (o := .cells #[.int .i64 0, .int .i64 0, .int .i64 0, .slice none 0 0] 40 (0, 0)) (u_ BK210.out) hg (Kd.R_ne HO217.out BK210.out (by decide)))
        have n1_ := mk_ (hb)
        have n2_ := mk_ (ho)
        clear BK210
        clear HB
        clear HO217
        have BK210 := n0_
        have HB := n1_
        have HO221 := n2_
        clear n0_ n1_ n2_
        clear ho hb hg hat
        obtain ⟨Ao4830221, co4830221, eo4830221⟩ := Kd.R_slice HO221.out
        (first | subst eo4830221 | (injection eo4830221 with f1_ f2_ f3_; have f4_ := f1_.symm; have f5_ := f3_.symm; clear f1_ f2_ f3_; subst f4_; subst f5_))
        refine hK.out _ _ ⟨((HB.out.cell (lc_ w _ hw213_0)).trans hw213_0), ((HB.out.cell (lc_ w _ hw214_0)).trans hw214_0)⟩ (fun hHeld => ?_)
        clear hK K
        refine norm_ (a' := ?_) ?_ ?_
        rotate_left
        ·show Act.put _ (some 38) _ = _
         simp only [Act.put, la_, lz_, ls_, i64_w, i32_w]
         rfl
        refine pure_ (i := 16) (N := some 39) (v := ?_) (a' := ?_) #[T_, T_, T_, T_, T_, T_, T_, T_, T_, T_, T_, T_, T_, T_, T_, T_, T_, F_, F_] rfl rfl (any_of HT_.out (by kernel_rfl)) (fun _ _ _ h => h) (Or.inl ⟨by rfl, ?_⟩) ?_ ?_
        rotate_left
        ·intro w'
         go_simp
         with_reducible rfl
        rotate_left
        ·simp only [Act.put, la_, lz_, ls_, i64_w, i32_w]
         rfl
        refine one_ (i := 17) (N := some 8) #[T_, T_, T_, T_, T_, T_, T_, T_, T_, T_, T_, T_, T_, T_, T_, T_, T_, T_, F_] rfl rfl (one_of HT_.out (by kernel_rfl)) (by decide) (fun K hK => ?_)
        refine box_step ?hg (N := 8) ?hd (cs := #[.int .i64 0, .int .i64 0, .int .i64 0, .slice none 0 0]) (t := 40) ?hr ?_; (case hd => rfl); (case hg => rfl); (case hr => first | (go_simp; done) | (go_simp; rfl))
        intro gb20325 hg w4830221 hbox hb
        have n0_ := mk_ (Kd.R_below (Kd.ur_ HO221.out) hb)
        have n1_ := mk_ (blk_below (u_ BK210.out) hb)
        have n2_ := mk_ (below_step (us_ HB.out) hb)
        have n3_ := mk_ (hbox)
        have n4_ := mk_ ((by rw [hg]; exact (below_size (us_ HB.out)) : w.heap.size ≤ gb20325))
        have n5_ := mk_ ((by rw [hg]; exact (below_size (us_ HB.out)) : w.heap.size ≤ gb20325))
        have n6_ := mk_ ((by rw [hg]; exact Nat.ne_of_lt (blk_lt (u_ BK210.out)) : gb210 ≠ gb20325))
        have n7_ := mk_ ((by rw [hg]; exact Nat.ne_of_gt (blk_lt (u_ BK210.out)) : gb20325 ≠ gb210))
        clear HO221
        clear BK210
        clear HB
        have HO221 := n0_
        have BK210 := n1_
        have HB := n2_
        have BK222 := n3_
        have GW222 := n4_
        have GE222 := ge_ n5_.out
        have NB210_222 := nq_ n6_.out
        have NB222_210 := nq_ n7_.out
        clear n0_ n1_ n2_ n3_ n4_ n5_ n6_ n7_
        clear hb hbox hg
        refine hK.out _ _ ⟨((HB.out.cell (lc_ w _ hw213_0)).trans hw213_0), ((HB.out.cell (lc_ w _ hw214_0)).trans hw214_0)⟩ (fun hHeld => ?_)
        clear hK K
        refine norm_ (a' := ?_) ?_ ?_
        rotate_left
        ·show Act.put _ (some 8) _ = _
         simp only [Act.put, la_, lz_, ls_, i64_w, i32_w]
         rfl
        exact norm_ (by simp only [putAll, Act.put, la_, lz_, ls_]) (hCont (v20320, .slice Ao4830221 y219.length co4830221, gb20325) _ ⟨hHeld, (Kd.ur_ HO221.out), (u_ BK210.out), (u_ BK222.out), GW222.out, GE222.out, NB210_222.out, NB222_210.out, (us_ HB.out)⟩)
       skip
       refine box_step ?hg (N := 8) ?hd (cs := #[.int .i64 0, .int .i64 0, .int .i64 0, .slice none 0 0]) (t := 40) ?hr ?_; (case hd => rfl); (case hg => rfl); (case hr => first | (go_simp; done) | (go_simp; rfl))
       intro gb20325 hg w20324 hbox hb
       have n0_ := mk_ (Kd.R_below (Kd.ur_ HO217.out) hb)
       have n1_ := mk_ (blk_below (u_ BK210.out) hb)
       have n2_ := mk_ (below_step (us_ HB.out) hb)
       have n3_ := mk_ (hbox)
       have n4_ := mk_ ((by rw [hg]; exact (below_size (us_ HB.out)) : w.heap.size ≤ gb20325))
       have n5_ := mk_ ((by rw [hg]; exact (below_size (us_ HB.out)) : w.heap.size ≤ gb20325))
       have n6_ := mk_ ((by rw [hg]; exact Nat.ne_of_lt (blk_lt (u_ BK210.out)) : gb210 ≠ gb20325))
       have n7_ := mk_ ((by rw [hg]; exact Nat.ne_of_gt (blk_lt (u_ BK210.out)) : gb20325 ≠ gb210))
       clear HO217
       clear BK210
       clear HB
       have HO217 := n0_
       have BK210 := n1_
       have HB := n2_
       have BK222 := n3_
       have GW222 := n4_
       have GE222 := ge_ n5_.out
       have NB210_222 := nq_ n6_.out
       have NB222_210 := nq_ n7_.out
       clear n0_ n1_ n2_ n3_ n4_ n5_ n6_ n7_
       clear hb hbox hg
       refine hK.out _ _ ⟨((HB.out.cell (lc_ w _ hw213_0)).trans hw213_0), ((HB.out.cell (lc_ w _ hw214_0)).trans hw214_0)⟩ (fun hHeld => ?_)
       clear hK K
       refine norm_ (a' := ?_) ?_ ?_
       rotate_left
       ·show Act.put _ (some 8) _ = _
        simp only [Act.put, la_, lz_, ls_, i64_w, i32_w]
        rfl
       refine one_ (i := 15) (N := some 38) #[T_, T_, T_, T_, T_, T_, T_, T_, T_, T_, T_, T_, T_, T_, T_, T_, F_, T_, F_] rfl rfl (one_of HT_.out (by kernel_rfl)) (by decide) (fun K hK => ?_)
       refine Kd.R_append_rows_step (Kd.int .u8) (w0 := w) w.heap.size (by rfl) (.tmp 32) (.tmp 37) 29 5 (.int .u8 0) 1 rfl Try.underlying29 info5 rfl (by decide) (by omega) v20320 y215 ((l2.take ((wrap64 ((l2.length : Int) - 2)) : Int).toNat).drop 3) _ _ _ (fun _ => True) (fun _ => False) rfl rfl ?aO ?aR (fun _ _ h => h) (fun _ h => h.elim) ?aF ?aB ?aS ?aL ?_
       (case aR => first | (have e_ := (Kd.C_below HR20040.out HB.out); rw [show ((l2.take ((wrap64 ((l2.length : Int) - 2)) : Int).toNat).drop 3).length = ((wrap64 ((l2.length : Int) - 2)).toNat - 3) from (by rw [List.length_drop, List.length_take]; have h_ : ((wrap64 ((l2.length : Int) - 2)) : Int) ≤ (l2.length : Int) := of_decide_eq_true (by first | (with_reducible assumption) | assumption); omega)] at e_; exact e_) | (rw [← show ((l2.take ((wrap64 ((l2.length : Int) - 2)) : Int).toNat).drop 3).length = ((wrap64 ((l2.length : Int) - 2)).toNat - 3) from (by rw [List.length_drop, List.length_take]; have h_ : ((wrap64 ((l2.length : Int) - 2)) : Int) ≤ (l2.length : Int) := of_decide_eq_true (by first | (with_reducible assumption) | assumption); omega)]; repeat (first | exact (Kd.C_below HR20040.out HB.out) | (with_reducible refine Kd.C_alloc ?_ _) | (with_reducible refine Kd.C_drewN ?_ _) | (with_reducible refine Kd.C_drew ?_))) | (repeat (first | exact (Kd.C_below HR20040.out HB.out) | (with_reducible refine Kd.C_alloc ?_ _) | (with_reducible refine Kd.C_drewN ?_ _) | (with_reducible refine Kd.C_drew ?_))))
       (case aB => exact (us_ HB.out))
       (case aF => exact (fun _ _ => trivial))
       (case aO => exact (Kd.ur_ HO217.out))
       (case aS => exact (below_size (us_ HB.out)))
       (case aL => have := LMc16.out; have hlx_ := (show ((l2.take ((wrap64 ((l2.length : Int) - 2)) : Int).toNat).drop 3).length = ((wrap64 ((l2.length : Int) - 2)).toNat - 3) from (by rw [List.length_drop, List.length_take]; have h_ : ((wrap64 ((l2.length : Int) - 2)) : Int) ≤ (l2.length : Int) := of_decide_eq_true (by first | (with_reducible assumption) | assumption); omega)); omega)
       intro v20323 w4830221 ho hb hg hat
       rw [← Ny219.out] at ho
       have n0_ := mk_ (blk_grown (g := gb210) (o := .cells #[.int .i64 0, .int .i64 0, .int .i64 0, .slice none 0 0] 40 (0, 0)) (u_ BK210.out) hg (Kd.R_ne HO217.out BK210.out (by decide)))
       have n1_ := mk_ (blk_grown (g := gb20325) (o := .cells #[.int .i64 0, .int .i64 0, .int .i64 0, .slice none 0 0] 40 (0, 0)) (u_ BK222.out) hg (Kd.R_ne HO217.out BK222.out (by decide)))
       have n2_ := mk_ (hb)
       have n3_ := mk_ (ho)
       clear BK210
       clear BK222
       clear HB
       clear HO217
       have BK210 := n0_
       have BK222 := n1_
       have HB := n2_
       have HO221 := n3_
       clear n0_ n1_ n2_ n3_
       clear ho hb hg hat
       obtain ⟨Ao4830221, co4830221, eo4830221⟩ := Kd.R_slice HO221.out
       (first | subst eo4830221 | (injection eo4830221 with f1_ f2_ f3_; have f4_ := f1_.symm; have f5_ := f3_.symm; clear f1_ f2_ f3_; subst f4_; subst f5_))
       refine hK.out _ _ ⟨((HB.out.cell (lc_ w _ hw213_0)).trans hw213_0), ((HB.out.cell (lc_ w _ hw214_0)).trans hw214_0)⟩ (fun hHeld => ?_)
       clear hK K
       refine norm_ (a' := ?_) ?_ ?_
       rotate_left
       ·show Act.put _ (some 38) _ = _
        simp only [Act.put, la_, lz_, ls_, i64_w, i32_w]
        rfl
       refine pure_ (i := 16) (N := some 39) (v := ?_) (a' := ?_) #[T_, T_, T_, T_, T_, T_, T_, T_, T_, T_, T_, T_, T_, T_, T_, T_, T_, T_, F_] rfl rfl (any_of HT_.out (by kernel_rfl)) (fun _ _ _ h => h) (Or.inl ⟨by rfl, ?_⟩) ?_ ?_
       rotate_left
       ·intro w'
        go_simp
        with_reducible rfl
       rotate_left
       ·simp only [Act.put, la_, lz_, ls_, i64_w, i32_w]
        rfl
       exact norm_ (by simp only [putAll, Act.put, la_, lz_, ls_]) (hCont (v20320, .slice Ao4830221 y219.length co4830221, gb20325) _ ⟨hHeld, (Kd.ur_ HO221.out), (u_ BK210.out), (u_ BK222.out), GW222.out, GE222.out, NB210_222.out, NB222_210.out, (us_ HB.out)⟩)
      skip
      refine box_step ?hg (N := 8) ?hd (cs := #[.int .i64 0, .int .i64 0, .int .i64 0, .slice none 0 0]) (t := 40) ?hr ?_; (case hd => rfl); (case hg => rfl); (case hr => first | (go_simp; done) | (go_simp; rfl))
      intro gb20325 hg w20321 hbox hb
      have n0_ := mk_ (blk_below (u_ BK210.out) hb)
      have n1_ := mk_ (below_step (us_ HB.out) hb)
      have n2_ := mk_ (hbox)
      have n3_ := mk_ ((by rw [hg]; exact (below_size (us_ HB.out)) : w.heap.size ≤ gb20325))
      have n4_ := mk_ ((by rw [hg]; exact (below_size (us_ HB.out)) : w.heap.size ≤ gb20325))
      have n5_ := mk_ ((by rw [hg]; exact Nat.ne_of_lt (blk_lt (u_ BK210.out)) : gb210 ≠ gb20325))
      have n6_ := mk_ ((by rw [hg]; exact Nat.ne_of_gt (blk_lt (u_ BK210.out)) : gb20325 ≠ gb210))
      clear BK210
      clear HB
      have BK210 := n0_
      have HB := n1_
      have BK222 := n2_
      have GW222 := n3_
      have GE222 := ge_ n4_.out
      have NB210_222 := nq_ n5_.out
      have NB222_210 := nq_ n6_.out
      clear n0_ n1_ n2_ n3_ n4_ n5_ n6_
      clear hb hbox hg
      refine hK.out _ _ ⟨((HB.out.cell (lc_ w _ hw213_0)).trans hw213_0), ((HB.out.cell (lc_ w _ hw214_0)).trans hw214_0)⟩ (fun hHeld => ?_)
      clear hK K
      refine norm_ (a' := ?_) ?_ ?_
      rotate_left
      ·show Act.put _ (some 8) _ = _
       simp only [Act.put, la_, lz_, ls_, i64_w, i32_w]
       rfl
      refine one_ (i := 9) (N := some 32) #[T_, T_, T_, T_, T_, T_, T_, T_, T_, T_, T_, T_, T_, T_, T_, F_, F_, T_, F_] rfl rfl (one_of HT_.out (by kernel_rfl)) (by decide) (fun K hK => ?_)
      refine Kd.R_lit_step (Kd.int .u8) _ 5 ?hg (N := 32) ?hd (xs := ([] : List Int)) (inner := []) (ok := fun _ => True) (okp := fun _ => True) ?hr ?hp (fun _ hk => hk) trivial (Below.refl _ _) (Nat.le_refl _) (by simp) ?_; (case hd => rfl); (case hg => rfl); (case hr => first | (go_simp; done) | (go_simp; rfl)); (case hp => exact (Reps.none _ _))
      intro v20320 w20322 ho20324 hb hg_ hnew_
      clear hg_ hnew_
      (first | rw [← Ny215.out] at ho20324 | (simp only [Int.reduceToNat] at ho20324; rw [← Ny215.out] at ho20324))
      have n0_ := mk_ (Kd.R_lower ho20324 (below_size (us_ HB.out)))
      have n1_ := mk_ (blk_below (u_ BK210.out) hb)
      have n2_ := mk_ (blk_below (u_ BK222.out) hb)
      have n3_ := mk_ (below_step (us_ HB.out) hb)
      clear BK210
      clear BK222
      clear HB
      have HO217 := n0_
      have BK210 := n1_
      have BK222 := n2_
      have HB := n3_
      clear n0_ n1_ n2_ n3_
      clear hb ho20324
      refine hK.out _ _ ⟨((HB.out.cell (lc_ w _ hw213_0)).trans hw213_0), ((HB.out.cell (lc_ w _ hw214_0)).trans hw214_0)⟩ (fun hHeld => ?_)
      clear hK K
      refine norm_ (a' := ?_) ?_ ?_
      rotate_left
      ·show Act.put _ (some 32) _ = _
       simp only [Act.put, la_, lz_, ls_, i64_w, i32_w]
       rfl
      refine one_ (i := 15) (N := some 38) #[T_, T_, T_, T_, T_, T_, T_, T_, T_, T_, T_, T_, T_, T_, T_, T_, F_, T_, F_] rfl rfl (one_of HT_.out (by kernel_rfl)) (by decide) (fun K hK => ?_)
      refine Kd.R_append_rows_step (Kd.int .u8) (w0 := w) w.heap.size (by rfl) (.tmp 32) (.tmp 37) 29 5 (.int .u8 0) 1 rfl Try.underlying29 info5 rfl (by decide) (by omega) v20320 y215 ((l2.take ((wrap64 ((l2.length : Int) - 2)) : Int).toNat).drop 3) _ _ _ (fun _ => True) (fun _ => False) rfl rfl ?aO ?aR (fun _ _ h => h) (fun _ h => h.elim) ?aF ?aB ?aS ?aL ?_
      (case aR => first | (have e_ := (Kd.C_below HR20040.out HB.out); rw [show ((l2.take ((wrap64 ((l2.length : Int) - 2)) : Int).toNat).drop 3).length = ((wrap64 ((l2.length : Int) - 2)).toNat - 3) from (by rw [List.length_drop, List.length_take]; have h_ : ((wrap64 ((l2.length : Int) - 2)) : Int) ≤ (l2.length : Int) := of_decide_eq_true (by first | (with_reducible assumption) | assumption); omega)] at e_; exact e_) | (rw [← show ((l2.take ((wrap64 ((l2.length : Int) - 2)) : Int).toNat).drop 3).length = ((wrap64 ((l2.length : Int) - 2)).toNat - 3) from (by rw [List.length_drop, List.length_take]; have h_ : ((wrap64 ((l2.length : Int) - 2)) : Int) ≤ (l2.length : Int) := of_decide_eq_true (by first | (with_reducible assumption) | assumption); omega)]; repeat (first | exact (Kd.C_below HR20040.out HB.out) | (with_reducible refine Kd.C_alloc ?_ _) | (with_reducible refine Kd.C_drewN ?_ _) | (with_reducible refine Kd.C_drew ?_))) | (repeat (first | exact (Kd.C_below HR20040.out HB.out) | (with_reducible refine Kd.C_alloc ?_ _) | (with_reducible refine Kd.C_drewN ?_ _) | (with_reducible refine Kd.C_drew ?_))))
      (case aB => exact (us_ HB.out))
      (case aF => exact (fun _ _ => trivial))
      (case aO => exact (Kd.ur_ HO217.out))
      (case aS => exact (below_size (us_ HB.out)))
      (case aL => have := LMc16.out; have hlx_ := (show ((l2.take ((wrap64 ((l2.length : Int) - 2)) : Int).toNat).drop 3).length = ((wrap64 ((l2.length : Int) - 2)).toNat - 3) from (by rw [List.length_drop, List.length_take]; have h_ : ((wrap64 ((l2.length : Int) - 2)) : Int) ≤ (l2.length : Int) := of_decide_eq_true (by first | (with_reducible assumption) | assumption); omega)); omega)
      intro v20323 w4830221 ho hb hg hat
      rw [← Ny219.out] at ho
      have n0_ := mk_ (blk_grown (g := gb210) (o := .cells #[.int .i64 0, .int .i64 0, .int .i64 0, .slice none 0 0] 40 (0, 0)) (u_ BK210.out) hg (Kd.R_ne HO217.out BK210.out (by decide)))
      have n1_ := mk_ (blk_grown (g := gb20325) (o := .cells #[.int .i64 0, .int .i64 0, .int .i64 0, .slice none 0 0] 40 (0, 0)) (u_ BK222.out) hg (Kd.R_ne HO217.out BK222.out (by decide)))
      have n2_ := mk_ (hb)
      have n3_ := mk_ (ho)
      clear BK210
      clear BK222
      clear HB
      clear HO217
      have BK210 := n0_
      have BK222 := n1_
      have HB := n2_
      have HO221 := n3_
      clear n0_ n1_ n2_ n3_
      clear ho hb hg hat
      obtain ⟨Ao4830221, co4830221, eo4830221⟩ := Kd.R_slice HO221.out
      (first | subst eo4830221 | (injection eo4830221 with f1_ f2_ f3_; have f4_ := f1_.symm; have f5_ := f3_.symm; clear f1_ f2_ f3_; subst f4_; subst f5_))
      refine hK.out _ _ ⟨((HB.out.cell (lc_ w _ hw213_0)).trans hw213_0), ((HB.out.cell (lc_ w _ hw214_0)).trans hw214_0)⟩ (fun hHeld => ?_)
      clear hK K
      refine norm_ (a' := ?_) ?_ ?_
      rotate_left
      ·show Act.put _ (some 38) _ = _
       simp only [Act.put, la_, lz_, ls_, i64_w, i32_w]
       rfl
      refine pure_ (i := 16) (N := some 39) (v := ?_) (a' := ?_) #[T_, T_, T_, T_, T_, T_, T_, T_, T_, T_, T_, T_, T_, T_, T_, T_, T_, T_, F_] rfl rfl (any_of HT_.out (by kernel_rfl)) (fun _ _ _ h => h) (Or.inl ⟨by rfl, ?_⟩) ?_ ?_
      rotate_left
      ·intro w'
       go_simp
       with_reducible rfl
      rotate_left
      ·simp only [Act.put, la_, lz_, ls_, i64_w, i32_w]
       rfl
      exact norm_ (by simp only [putAll, Act.put, la_, lz_, ls_]) (hCont (v20320, .slice Ao4830221 y219.length co4830221, gb20325) _ ⟨hHeld, (Kd.ur_ HO221.out), (u_ BK210.out), (u_ BK222.out), GW222.out, GE222.out, NB210_222.out, NB222_210.out, (us_ HB.out)⟩)
     rintro ⟨v20320, v20323, gb20325⟩ w20360 ⟨hS_, h0_, h1_, h2_, h3_, h4_, h5_, h6_, h7_⟩
     have n0_ : Aside0 (Kd.R (Kd.int .u8) 5 w20360 w.heap.size (fun _ => True) v20323 y219) := ⟨h0_⟩
     have n1_ : Aside0 (w20360.heap[gb210]? = some (.cells #[.int .i64 0, .int .i64 0, .int .i64 0, .slice none 0 0] 40 (0, 0))) := ⟨h1_⟩
     have n2_ : Aside0 (w20360.heap[gb20325]? = some (.cells #[.int .i64 0, .int .i64 0, .int .i64 0, .slice none 0 0] 40 (0, 0))) := ⟨h2_⟩
     have n3_ : Aside0 (w.heap.size ≤ gb20325) := ⟨h3_⟩
     have n4_ : Aside0 (w.heap.size ≤ gb20325) := ⟨h4_⟩
     have n5_ : Aside0 (gb210 ≠ gb20325) := ⟨h5_⟩
     have n6_ : Aside0 (gb20325 ≠ gb210) := ⟨h6_⟩
     have n7_ : Aside0 (Below w.heap.size w w20360) := ⟨h7_⟩
     clear BK210
     clear HB
     clear h0_ h1_ h2_ h3_ h4_ h5_ h6_ h7_
     have HO221 := n0_
     have BK210 := n1_
     have BK222 := n2_
     have GW222 := n3_
     have GE222 := ge_ n4_.out
     have NB210_222 := nq_ n5_.out
     have NB222_210 := nq_ n6_.out
     have HB := n7_
     clear n0_ n1_ n2_ n3_ n4_ n5_ n6_ n7_
     have hHeld : w20360.cell? ad19240 = some (.int .u8 (rd l2 0)) ∧ w20360.cell? ⟨ad19240.block, ad19240.off + 1, none⟩ = some (.int .u8 (rd l2 1)) := hS_
     obtain ⟨Ao5040221, co5040221, eo5040221⟩ := Kd.R_slice HO221.out
     (first | subst eo5040221 | (injection eo5040221 with f1_ f2_ f3_; have f4_ := f1_.symm; have f5_ := f3_.symm; clear f1_ f2_ f3_; subst f4_; subst f5_))
     refine norm_ (a' := ?_) ?_ ?_
     rotate_left
     ·simp only [putAll, Act.put, la_, lz_, ls_]
      rfl
     refine one_ (i := 18) (N := none) #[T_, T_, T_, T_, T_, T_, T_, T_, T_, T_, T_, T_, T_, T_, T_, T_, T_, T_, T_] rfl rfl (one_of HT_.out (by kernel_rfl)) (by decide) (fun K hK => ?_)
     have hs21320 : w20360.cell? ⟨gb20325, 0, none⟩ = some (.int .i64 0) := (blk_cell BK222.out 0).trans rfl
     have hfs21320 := blk_frozen BK222.out 0
     have hns21320_0 := NB210_222.out
     have hms21320_0 := NB222_210.out
     have hs21480 : w20360.cell? ⟨gb20325, 1, none⟩ = some (.int .i64 0) := (blk_cell BK222.out 1).trans rfl
     have hfs21480 := blk_frozen BK222.out 1
     have hns21480_0 := NB210_222.out
     have hms21480_0 := NB222_210.out
     have hs21640 : w20360.cell? ⟨gb20325, 2, none⟩ = some (.int .i64 0) := (blk_cell BK222.out 2).trans rfl
     have hfs21640 := blk_frozen BK222.out 2
     have hns21640_0 := NB210_222.out
     have hms21640_0 := NB222_210.out
     have hs21800 : w20360.cell? ⟨gb20325, 3, none⟩ = some (.slice none 0 0) := (blk_cell BK222.out 3).trans rfl
     have hfs21800 := blk_frozen BK222.out 3
     have hns21800_0 := NB210_222.out
     have hms21800_0 := NB222_210.out
     refine skip_ (w1 := ?_) (by rfl) rfl ?_ ?_
     rotate_left
     ·go_simp
      rfl
     refine hK.out _ _ ⟨((cell_far (p := ⟨gb20325, _, none⟩) (by first | exact (ne1_ (by have := lc_ _ _ hw213_0; first | rwa [add_block] at this | exact this) GW222.out) | (rw [add_block]; exact (ne1_ (by have := lc_ _ _ hw213_0; first | rwa [add_block] at this | exact this) GW222.out)) | (show (Addr.add _ _).block ≠ _; rw [add_block]; exact (ne1_ (by have := lc_ _ _ hw213_0; first | rwa [add_block] at this | exact this) GW222.out)) | (dsimp only; exact (ne1_ (by have := lc_ _ _ hw213_0; first | rwa [add_block] at this | exact this) GW222.out))) _).trans (((cell_far (p := ⟨gb20325, _, none⟩) (by first | exact (ne1_ (by have := lc_ _ _ hw213_0; first | rwa [add_block] at this | exact this) GW222.out) | (rw [add_block]; exact (ne1_ (by have := lc_ _ _ hw213_0; first | rwa [add_block] at this | exact this) GW222.out)) | (show (Addr.add _ _).block ≠ _; rw [add_block]; exact (ne1_ (by have := lc_ _ _ hw213_0; first | rwa [add_block] at this | exact this) GW222.out)) | (dsimp only; exact (ne1_ (by have := lc_ _ _ hw213_0; first | rwa [add_block] at this | exact this) GW222.out))) _).trans (((cell_far (p := ⟨gb20325, _, none⟩) (by first | exact (ne1_ (by have := lc_ _ _ hw213_0; first | rwa [add_block] at this | exact this) GW222.out) | (rw [add_block]; exact (ne1_ (by have := lc_ _ _ hw213_0; first | rwa [add_block] at this | exact this) GW222.out)) | (show (Addr.add _ _).block ≠ _; rw [add_block]; exact (ne1_ (by have := lc_ _ _ hw213_0; first | rwa [add_block] at this | exact this) GW222.out)) | (dsimp only; exact (ne1_ (by have := lc_ _ _ hw213_0; first | rwa [add_block] at this | exact this) GW222.out))) _).trans (((cell_far (p := ⟨gb20325, _, none⟩) (by first | exact (ne1_ (by have := lc_ _ _ hw213_0; first | rwa [add_block] at this | exact this) GW222.out) | (rw [add_block]; exact (ne1_ (by have := lc_ _ _ hw213_0; first | rwa [add_block] at this | exact this) GW222.out)) | (show (Addr.add _ _).block ≠ _; rw [add_block]; exact (ne1_ (by have := lc_ _ _ hw213_0; first | rwa [add_block] at this | exact this) GW222.out)) | (dsimp only; exact (ne1_ (by have := lc_ _ _ hw213_0; first | rwa [add_block] at this | exact this) GW222.out))) _).trans (hHeld.1)))))))), ((cell_far (p := ⟨gb20325, _, none⟩) (by first | exact (ne1_ (by have := lc_ _ _ hw214_0; first | rwa [add_block] at this | exact this) GW222.out) | (rw [add_block]; exact (ne1_ (by have := lc_ _ _ hw214_0; first | rwa [add_block] at this | exact this) GW222.out)) | (show (Addr.add _ _).block ≠ _; rw [add_block]; exact (ne1_ (by have := lc_ _ _ hw214_0; first | rwa [add_block] at this | exact this) GW222.out)) | (dsimp only; exact (ne1_ (by have := lc_ _ _ hw214_0; first | rwa [add_block] at this | exact this) GW222.out))) _).trans (((cell_far (p := ⟨gb20325, _, none⟩) (by first | exact (ne1_ (by have := lc_ _ _ hw214_0; first | rwa [add_block] at this | exact this) GW222.out) | (rw [add_block]; exact (ne1_ (by have := lc_ _ _ hw214_0; first | rwa [add_block] at this | exact this) GW222.out)) | (show (Addr.add _ _).block ≠ _; rw [add_block]; exact (ne1_ (by have := lc_ _ _ hw214_0; first | rwa [add_block] at this | exact this) GW222.out)) | (dsimp only; exact (ne1_ (by have := lc_ _ _ hw214_0; first | rwa [add_block] at this | exact this) GW222.out))) _).trans (((cell_far (p := ⟨gb20325, _, none⟩) (by first | exact (ne1_ (by have := lc_ _ _ hw214_0; first | rwa [add_block] at this | exact this) GW222.out) | (rw [add_block]; exact (ne1_ (by have := lc_ _ _ hw214_0; first | rwa [add_block] at this | exact this) GW222.out)) | (show (Addr.add _ _).block ≠ _; rw [add_block]; exact (ne1_ (by have := lc_ _ _ hw214_0; first | rwa [add_block] at this | exact this) GW222.out)) | (dsimp only; exact (ne1_ (by have := lc_ _ _ hw214_0; first | rwa [add_block] at this | exact this) GW222.out))) _).trans (((cell_far (p := ⟨gb20325, _, none⟩) (by first | exact (ne1_ (by have := lc_ _ _ hw214_0; first | rwa [add_block] at this | exact this) GW222.out) | (rw [add_block]; exact (ne1_ (by have := lc_ _ _ hw214_0; first | rwa [add_block] at this | exact this) GW222.out)) | (show (Addr.add _ _).block ≠ _; rw [add_block]; exact (ne1_ (by have := lc_ _ _ hw214_0; first | rwa [add_block] at this | exact this) GW222.out)) | (dsimp only; exact (ne1_ (by have := lc_ _ _ hw214_0; first | rwa [add_block] at this | exact this) GW222.out))) _).trans (hHeld.2))))))))⟩ (fun hHeld => ?_)
     clear hK K
     refine done_ (done_of HT_.out (by kernel_rfl)) ?_
     try go_wp2
     have n0_ : Aside0 (Kd.R (Kd.int .u8) 5 ((((w20360.setCell ⟨gb20325, 0, none⟩ (.int .i64 a0)).setCell ⟨gb20325, 1, none⟩ (.int .i64 (wrap64 (rd l2 0)))).setCell ⟨gb20325, 2, none⟩ (.int .i64 (wrap64 (rd l2 1)))).setCell ⟨gb20325, 3, none⟩ (.slice Ao5040221 y219.length co5040221)) w.heap.size (fun _ => True) (.slice Ao5040221 y219.length co5040221) y219) := ⟨by (with_reducible repeat (first | apply Kd.R_alloc | apply Kd.R_drewN | apply Kd.R_drew)); exact Kd.R_mono (Kd.R_far (p := ⟨gb20325, 3, none⟩) (Kd.R_far (p := ⟨gb20325, 2, none⟩) (Kd.R_far (p := ⟨gb20325, 1, none⟩) (Kd.R_far (p := ⟨gb20325, 0, none⟩) (Kd.R_types HO221.out BK222.out (by decide)) (fun _ hk => hk.2) (.int .i64 a0)) (fun _ hk => hk.2) (.int .i64 (wrap64 (rd l2 0)))) (fun _ hk => hk.2) (.int .i64 (wrap64 (rd l2 1)))) (fun _ hk => hk.2) (.slice Ao5040221 y219.length co5040221)) (fun _ hk => trivial)⟩
     have n1_ : Aside0 (((((w20360.setCell ⟨gb20325, 0, none⟩ (.int .i64 a0)).setCell ⟨gb20325, 1, none⟩ (.int .i64 (wrap64 (rd l2 0)))).setCell ⟨gb20325, 2, none⟩ (.int .i64 (wrap64 (rd l2 1)))).setCell ⟨gb20325, 3, none⟩ (.slice Ao5040221 y219.length co5040221)).heap[gb210]? = some (.cells #[.int .i64 0, .int .i64 0, .int .i64 0, .slice none 0 0] 40 (0, 0))) := ⟨uf_ BK210.out⟩
     have n2_ : Aside0 (((((w20360.setCell ⟨gb20325, 0, none⟩ (.int .i64 a0)).setCell ⟨gb20325, 1, none⟩ (.int .i64 (wrap64 (rd l2 0)))).setCell ⟨gb20325, 2, none⟩ (.int .i64 (wrap64 (rd l2 1)))).setCell ⟨gb20325, 3, none⟩ (.slice Ao5040221 y219.length co5040221)).heap[gb20325]? = some (.cells #[.int .i64 a0, .int .i64 (wrap64 (rd l2 0)), .int .i64 (wrap64 (rd l2 1)), .slice Ao5040221 y219.length co5040221] 40 (0, 0))) := ⟨by (with_reducible repeat (first | refine bn_ ?_ _ | refine bw_ ?_ | refine ba_ ?_ _)); refine blk_put (cs := #[.int .i64 a0, .int .i64 (wrap64 (rd l2 0)), .int .i64 (wrap64 (rd l2 1)), .slice none 0 0]) ?_ 3 _ rfl; (with_reducible repeat (first | refine bn_ ?_ _ | refine bw_ ?_ | refine ba_ ?_ _)); refine blk_put (cs := #[.int .i64 a0, .int .i64 (wrap64 (rd l2 0)), .int .i64 0, .slice none 0 0]) ?_ 2 _ rfl; (with_reducible repeat (first | refine bn_ ?_ _ | refine bw_ ?_ | refine ba_ ?_ _)); refine blk_put (cs := #[.int .i64 a0, .int .i64 0, .int .i64 0, .slice none 0 0]) ?_ 1 _ rfl; (with_reducible repeat (first | refine bn_ ?_ _ | refine bw_ ?_ | refine ba_ ?_ _)); refine blk_put (cs := #[.int .i64 0, .int .i64 0, .int .i64 0, .slice none 0 0]) ?_ 0 _ rfl; (with_reducible repeat (first | refine bn_ ?_ _ | refine bw_ ?_ | refine ba_ ?_ _)); exact BK222.out⟩
     have n3_ : Aside0 (Below w.heap.size w ((((w20360.setCell ⟨gb20325, 0, none⟩ (.int .i64 a0)).setCell ⟨gb20325, 1, none⟩ (.int .i64 (wrap64 (rd l2 0)))).setCell ⟨gb20325, 2, none⟩ (.int .i64 (wrap64 (rd l2 1)))).setCell ⟨gb20325, 3, none⟩ (.slice Ao5040221 y219.length co5040221))) := ⟨us_ HB.out⟩
     (try clear HO221)
     (try clear BK210)
     (try clear BK222)
     (try clear HB)
     generalize ((((w20360.setCell ⟨gb20325, 0, none⟩ (.int .i64 a0)).setCell ⟨gb20325, 1, none⟩ (.int .i64 (wrap64 (rd l2 0)))).setCell ⟨gb20325, 2, none⟩ (.int .i64 (wrap64 (rd l2 1)))).setCell ⟨gb20325, 3, none⟩ (.slice Ao5040221 y219.length co5040221)) = w22400 at n0_ n1_ n2_ n3_ ⊢
     have HO221 := n0_
     have BK210 := n1_
     have BK222 := n2_
     have HB := n3_
     clear n0_ n1_ n2_ n3_
     have n0_ := mk_ (Kd.R_drew HO221.out)
     have n1_ := mk_ (blk_drew BK210.out)
     have n2_ := mk_ (blk_drew BK222.out)
     have n3_ := mk_ (below_drew1 HB.out)
     clear HO221
     clear BK210
     clear BK222
     clear HB
     have HO221 := n0_
     have BK210 := n1_
     have BK222 := n2_
     have HB := n3_
     clear n0_ n1_ n2_ n3_
    rotate_left
   rotate_right 2
   ·refine start_ (n := 29) (S := fun w' => w'.cell? ⟨gb20325, 0, none⟩ = some (.int .i64 a0) ∧ w'.cell? ⟨gb20325, 1, none⟩ = some (.int .i64 (wrap64 (rd l2 0))) ∧ w'.cell? ⟨gb20325, 2, none⟩ = some (.int .i64 (wrap64 (rd l2 1))) ∧ w'.cell? ⟨gb20325, 3, none⟩ = some (.slice Ao5040221 y219.length co5040221)) (ds := []) #[F_, F_, F_, F_, F_, F_, F_, F_, F_, F_, F_, F_, F_, F_, F_, F_, F_, F_, F_, F_, F_, F_, F_, F_, F_, F_, F_, F_, F_] (by kernel_rfl) rfl rfl ⟨(blk_cell BK222.out 0).trans rfl, (blk_cell BK222.out 1).trans rfl, (blk_cell BK222.out 2).trans rfl, (blk_cell BK222.out 3).trans rfl⟩ (fun hHeld => ?_); refine with_tabW spec_MailFrom.tab4 spec_MailFrom.bits4 (fun HT_ HW_ => ?_)
    generalize w22400.drew = w23200 at HO221 BK210 BK222 HB hHeld ⊢
    refine take_ (i := 0) (N := some 40) (v := ?_) (a' := ?_) #[T_, F_, F_, F_, F_, F_, F_, F_, F_, F_, F_, F_, F_, F_, F_, F_, F_, F_, F_, F_, F_, F_, F_, F_, F_, F_, F_, F_, F_] rfl rfl (take_ofW HT_.out HW_.out (by kernel_rfl)) (fun _ _ _ h => h) (Or.inl ⟨by rfl, ?_⟩) hHeld ?_ ?_
    rotate_left
    ·rintro w' ⟨s3320, s3321, s8520, s8521⟩
     go_simp
     with_reducible rfl
    rotate_left
    ·simp only [Act.put, la_, lz_, ls_, i64_w, i32_w]
     rfl
    refine one_ (i := 1) (N := some 41) #[T_, T_, F_, F_, F_, F_, F_, F_, F_, F_, F_, F_, F_, F_, F_, F_, F_, F_, F_, F_, F_, F_, F_, F_, F_, F_, F_, F_, F_] rfl rfl (one_of HT_.out (by kernel_rfl)) (by decide) (fun K hK => ?_)
    refine goes_ Try.func41 (by kernel_rfl) rfl #[.agg #[.int .i64 a0, .int .i64 (wrap64 (rd l2 0)), .int .i64 (wrap64 (rd l2 1)), .slice Ao5040221 y219.length co5040221]] (by rfl) rfl rfl (by (try simp only [lm_, lo_, ln_]); try rfl) ?_
    with_reducible refine (spec_MailOk.calls a0 (wrap64 (rd l2 0)) (wrap64 (rd l2 1)) _ _ y219 false _ ?side1 ?side2 A17.out).mono ?_
    (case side1 => repeat (first | exact (Kd.R_reads' HO221.out).2.2 | (with_reducible refine Kd.C_alloc ?_ _) | (with_reducible refine Kd.C_drewN ?_ _) | (with_reducible refine Kd.C_drew ?_)))
    (case side2 => exact (Kd.R_reads' HO221.out).2.1)
    rintro e w13400 ⟨rfl, hb⟩
    refine ⟨_, rfl, ?_⟩
    have n0_ := mk_ (Kd.R_below (Kd.ur_ HO221.out) hb)
    have n1_ := mk_ (blk_below (u_ BK210.out) hb)
    have n2_ := mk_ (blk_below (u_ BK222.out) hb)
    have n3_ := mk_ (below_step (us_ HB.out) hb)
    clear HO221
    clear BK210
    clear BK222
    clear HB
    have HO221 := n0_
    have BK210 := n1_
    have BK222 := n2_
    have HB := n3_
    clear n0_ n1_ n2_ n3_
    (try clear hb)
    (try clear hb2)
    (try clear hk)
    (try clear hi)
    refine hK.out _ _ ⟨(blk_cell BK222.out 0).trans rfl, (blk_cell BK222.out 1).trans rfl, (blk_cell BK222.out 2).trans rfl, (blk_cell BK222.out 3).trans rfl⟩ (fun hHeld => ?_)
    clear hK K
    refine norm_ (a' := ?_) ?_ ?_
    rotate_left
    ·show Act.put _ (some 41) _ = _
     simp only [Act.put, la_, lz_, ls_, i64_w, i32_w]
     rfl
    refine pure_ (i := 2) (N := some 42) (v := ?_) (a' := ?_) #[T_, T_, T_, F_, F_, F_, F_, F_, F_, F_, F_, F_, F_, F_, F_, F_, F_, F_, F_, F_, F_, F_, F_, F_, F_, F_, F_, F_, F_] rfl rfl (any_of HT_.out (by kernel_rfl)) (fun _ _ _ h => h) (Or.inl ⟨by rfl, ?_⟩) ?_ ?_
    rotate_left
    ·intro w'
     go_simp
     with_reducible rfl
    rotate_left
    ·simp only [Act.put, la_, lz_, ls_, i64_w, i32_w]
     rfl
    refine pure_ (i := 3) (N := some 43) (v := ?_) (a' := ?_) #[T_, T_, T_, T_, F_, F_, F_, F_, F_, F_, F_, F_, F_, F_, F_, F_, F_, F_, F_, F_, F_, F_, F_, F_, F_, F_, F_, F_, F_] rfl rfl (any_of HT_.out (by kernel_rfl)) (fun _ _ _ h => h) (Or.inl ⟨by rfl, ?_⟩) ?_ ?_
    rotate_left
    ·intro w'
     go_simp
     with_reducible rfl
    rotate_left
    ·simp only [Act.put, la_, lz_, ls_, i64_w, i32_w]
     rfl
    refine pure_ (i := 4) (N := some 44) (v := undef) (a' := ?_) #[T_, T_, T_, T_, T_, F_, F_, F_, F_, F_, F_, F_, F_, F_, F_, F_, F_, F_, F_, F_, F_, F_, F_, F_, F_, F_, F_, F_, F_] rfl rfl (any_of HT_.out (by kernel_rfl)) (fun _ _ _ h => h) (Or.inr ⟨by rfl, rfl⟩) ?_ ?_
    rotate_left
    ·simp only [Act.put, la_, lz_, ls_, i64_w, i32_w]
     rfl
    refine pure_ (i := 5) (N := some 45) (v := undef) (a' := ?_) #[T_, T_, T_, T_, T_, T_, F_, F_, F_, F_, F_, F_, F_, F_, F_, F_, F_, F_, F_, F_, F_, F_, F_, F_, F_, F_, F_, F_, F_] rfl rfl (any_of HT_.out (by kernel_rfl)) (fun _ _ _ h => h) (Or.inr ⟨by rfl, rfl⟩) ?_ ?_
    rotate_left
    ·simp only [Act.put, la_, lz_, ls_, i64_w, i32_w]
     rfl
    refine pure_ (i := 6) (N := some 46) (v := undef) (a' := ?_) #[T_, T_, T_, T_, T_, T_, T_, F_, F_, F_, F_, F_, F_, F_, F_, F_, F_, F_, F_, F_, F_, F_, F_, F_, F_, F_, F_, F_, F_] rfl rfl (any_of HT_.out (by kernel_rfl)) (fun _ _ _ h => h) (Or.inr ⟨by rfl, rfl⟩) ?_ ?_
    rotate_left
    ·simp only [Act.put, la_, lz_, ls_, i64_w, i32_w]
     rfl
    refine pure_ (i := 7) (N := some 47) (v := undef) (a' := ?_) #[T_, T_, T_, T_, T_, T_, T_, T_, F_, F_, F_, F_, F_, F_, F_, F_, F_, F_, F_, F_, F_, F_, F_, F_, F_, F_, F_, F_, F_] rfl rfl (any_of HT_.out (by kernel_rfl)) (fun _ _ _ h => h) (Or.inr ⟨by rfl, rfl⟩) ?_ ?_
    rotate_left
    ·simp only [Act.put, la_, lz_, ls_, i64_w, i32_w]
     rfl
    refine pure_ (i := 8) (N := some 48) (v := undef) (a' := ?_) #[T_, T_, T_, T_, T_, T_, T_, T_, T_, F_, F_, F_, F_, F_, F_, F_, F_, F_, F_, F_, F_, F_, F_, F_, F_, F_, F_, F_, F_] rfl rfl (any_of HT_.out (by kernel_rfl)) (fun _ _ _ h => h) (Or.inr ⟨by rfl, rfl⟩) ?_ ?_
    rotate_left
    ·simp only [Act.put, la_, lz_, ls_, i64_w, i32_w]
     rfl
    refine pure_ (i := 9) (N := some 49) (v := undef) (a' := ?_) #[T_, T_, T_, T_, T_, T_, T_, T_, T_, T_, F_, F_, F_, F_, F_, F_, F_, F_, F_, F_, F_, F_, F_, F_, F_, F_, F_, F_, F_] rfl rfl (any_of HT_.out (by kernel_rfl)) (fun _ _ _ h => h) (Or.inr ⟨by rfl, rfl⟩) ?_ ?_
    rotate_left
    ·simp only [Act.put, la_, lz_, ls_, i64_w, i32_w]
     rfl
    refine pure_ (i := 10) (N := some 50) (v := undef) (a' := ?_) #[T_, T_, T_, T_, T_, T_, T_, T_, T_, T_, T_, F_, F_, F_, F_, F_, F_, F_, F_, F_, F_, F_, F_, F_, F_, F_, F_, F_, F_] rfl rfl (any_of HT_.out (by kernel_rfl)) (fun _ _ _ h => h) (Or.inr ⟨by rfl, rfl⟩) ?_ ?_
    rotate_left
    ·simp only [Act.put, la_, lz_, ls_, i64_w, i32_w]
     rfl
    refine pure_ (i := 11) (N := some 51) (v := undef) (a' := ?_) #[T_, T_, T_, T_, T_, T_, T_, T_, T_, T_, T_, T_, F_, F_, F_, F_, F_, F_, F_, F_, F_, F_, F_, F_, F_, F_, F_, F_, F_] rfl rfl (any_of HT_.out (by kernel_rfl)) (fun _ _ _ h => h) (Or.inr ⟨by rfl, rfl⟩) ?_ ?_
    rotate_left
    ·simp only [Act.put, la_, lz_, ls_, i64_w, i32_w]
     rfl
    refine pure_ (i := 12) (N := some 52) (v := ?_) (a' := ?_) #[T_, T_, T_, T_, T_, T_, T_, T_, T_, T_, T_, T_, T_, F_, F_, F_, F_, F_, F_, F_, F_, F_, F_, F_, F_, F_, F_, F_, F_] rfl rfl (any_of HT_.out (by kernel_rfl)) (fun _ _ _ h => h) (Or.inl ⟨by rfl, ?_⟩) ?_ ?_
    rotate_left
    ·intro w'
     go_simp
     with_reducible rfl
    rotate_left
    ·simp only [Act.put, la_, lz_, ls_, i64_w, i32_w]
     rfl
    refine pure_ (i := 13) (N := some 53) (v := ?_) (a' := ?_) #[T_, T_, T_, T_, T_, T_, T_, T_, T_, T_, T_, T_, T_, T_, F_, F_, F_, F_, F_, F_, F_, F_, F_, F_, F_, F_, F_, F_, F_] rfl rfl (any_of HT_.out (by kernel_rfl)) (fun _ _ _ h => h) (Or.inl ⟨by rfl, ?_⟩) ?_ ?_
    rotate_left
    ·intro w'
     go_simp
     with_reducible rfl
    rotate_left
    ·simp only [Act.put, la_, lz_, ls_, i64_w, i32_w]
     rfl
    refine pure_ (i := 14) (N := some 54) (v := undef) (a' := ?_) #[T_, T_, T_, T_, T_, T_, T_, T_, T_, T_, T_, T_, T_, T_, T_, F_, F_, F_, F_, F_, F_, F_, F_, F_, F_, F_, F_, F_, F_] rfl rfl (any_of HT_.out (by kernel_rfl)) (fun _ _ _ h => h) (Or.inr ⟨by rfl, rfl⟩) ?_ ?_
    rotate_left
    ·simp only [Act.put, la_, lz_, ls_, i64_w, i32_w]
     rfl
    refine pure_ (i := 15) (N := some 55) (v := undef) (a' := ?_) #[T_, T_, T_, T_, T_, T_, T_, T_, T_, T_, T_, T_, T_, T_, T_, T_, F_, F_, F_, F_, F_, F_, F_, F_, F_, F_, F_, F_, F_] rfl rfl (any_of HT_.out (by kernel_rfl)) (fun _ _ _ h => h) (Or.inr ⟨by rfl, rfl⟩) ?_ ?_
    rotate_left
    ·simp only [Act.put, la_, lz_, ls_, i64_w, i32_w]
     rfl
    refine pure_ (i := 16) (N := some 56) (v := undef) (a' := ?_) #[T_, T_, T_, T_, T_, T_, T_, T_, T_, T_, T_, T_, T_, T_, T_, T_, T_, F_, F_, F_, F_, F_, F_, F_, F_, F_, F_, F_, F_] rfl rfl (any_of HT_.out (by kernel_rfl)) (fun _ _ _ h => h) (Or.inr ⟨by rfl, rfl⟩) ?_ ?_
    rotate_left
    ·simp only [Act.put, la_, lz_, ls_, i64_w, i32_w]
     rfl
    refine pure_ (i := 17) (N := some 57) (v := undef) (a' := ?_) #[T_, T_, T_, T_, T_, T_, T_, T_, T_, T_, T_, T_, T_, T_, T_, T_, T_, T_, F_, F_, F_, F_, F_, F_, F_, F_, F_, F_, F_] rfl rfl (any_of HT_.out (by kernel_rfl)) (fun _ _ _ h => h) (Or.inr ⟨by rfl, rfl⟩) ?_ ?_
    rotate_left
    ·simp only [Act.put, la_, lz_, ls_, i64_w, i32_w]
     rfl
    refine pure_ (i := 18) (N := some 58) (v := undef) (a' := ?_) #[T_, T_, T_, T_, T_, T_, T_, T_, T_, T_, T_, T_, T_, T_, T_, T_, T_, T_, T_, F_, F_, F_, F_, F_, F_, F_, F_, F_, F_] rfl rfl (any_of HT_.out (by kernel_rfl)) (fun _ _ _ h => h) (Or.inr ⟨by rfl, rfl⟩) ?_ ?_
    rotate_left
    ·simp only [Act.put, la_, lz_, ls_, i64_w, i32_w]
     rfl
    refine pure_ (i := 19) (N := some 59) (v := undef) (a' := ?_) #[T_, T_, T_, T_, T_, T_, T_, T_, T_, T_, T_, T_, T_, T_, T_, T_, T_, T_, T_, T_, F_, F_, F_, F_, F_, F_, F_, F_, F_] rfl rfl (any_of HT_.out (by kernel_rfl)) (fun _ _ _ h => h) (Or.inr ⟨by rfl, rfl⟩) ?_ ?_
    rotate_left
    ·simp only [Act.put, la_, lz_, ls_, i64_w, i32_w]
     rfl
    refine pure_ (i := 20) (N := some 60) (v := undef) (a' := ?_) #[T_, T_, T_, T_, T_, T_, T_, T_, T_, T_, T_, T_, T_, T_, T_, T_, T_, T_, T_, T_, T_, F_, F_, F_, F_, F_, F_, F_, F_] rfl rfl (any_of HT_.out (by kernel_rfl)) (fun _ _ _ h => h) (Or.inr ⟨by rfl, rfl⟩) ?_ ?_
    rotate_left
    ·simp only [Act.put, la_, lz_, ls_, i64_w, i32_w]
     rfl
    refine pure_ (i := 21) (N := some 61) (v := undef) (a' := ?_) #[T_, T_, T_, T_, T_, T_, T_, T_, T_, T_, T_, T_, T_, T_, T_, T_, T_, T_, T_, T_, T_, T_, F_, F_, F_, F_, F_, F_, F_] rfl rfl (any_of HT_.out (by kernel_rfl)) (fun _ _ _ h => h) (Or.inr ⟨by rfl, rfl⟩) ?_ ?_
    rotate_left
    ·simp only [Act.put, la_, lz_, ls_, i64_w, i32_w]
     rfl
    refine pure_ (i := 22) (N := some 62) (v := undef) (a' := ?_) #[T_, T_, T_, T_, T_, T_, T_, T_, T_, T_, T_, T_, T_, T_, T_, T_, T_, T_, T_, T_, T_, T_, T_, F_, F_, F_, F_, F_, F_] rfl rfl (any_of HT_.out (by kernel_rfl)) (fun _ _ _ h => h) (Or.inr ⟨by rfl, rfl⟩) ?_ ?_
    rotate_left
    ·simp only [Act.put, la_, lz_, ls_, i64_w, i32_w]
     rfl
    refine pure_ (i := 23) (N := some 63) (v := undef) (a' := ?_) #[T_, T_, T_, T_, T_, T_, T_, T_, T_, T_, T_, T_, T_, T_, T_, T_, T_, T_, T_, T_, T_, T_, T_, T_, F_, F_, F_, F_, F_] rfl rfl (any_of HT_.out (by kernel_rfl)) (fun _ _ _ h => h) (Or.inr ⟨by rfl, rfl⟩) ?_ ?_
    rotate_left
    ·simp only [Act.put, la_, lz_, ls_, i64_w, i32_w]
     rfl
    refine pure_ (i := 24) (N := some 64) (v := undef) (a' := ?_) #[T_, T_, T_, T_, T_, T_, T_, T_, T_, T_, T_, T_, T_, T_, T_, T_, T_, T_, T_, T_, T_, T_, T_, T_, T_, F_, F_, F_, F_] rfl rfl (any_of HT_.out (by kernel_rfl)) (fun _ _ _ h => h) (Or.inr ⟨by rfl, rfl⟩) ?_ ?_
    rotate_left
    ·simp only [Act.put, la_, lz_, ls_, i64_w, i32_w]
     rfl
    refine pure_ (i := 25) (N := some 65) (v := undef) (a' := ?_) #[T_, T_, T_, T_, T_, T_, T_, T_, T_, T_, T_, T_, T_, T_, T_, T_, T_, T_, T_, T_, T_, T_, T_, T_, T_, T_, F_, F_, F_] rfl rfl (any_of HT_.out (by kernel_rfl)) (fun _ _ _ h => h) (Or.inr ⟨by rfl, rfl⟩) ?_ ?_
    rotate_left
    ·simp only [Act.put, la_, lz_, ls_, i64_w, i32_w]
     rfl
    refine pure_ (i := 26) (N := some 66) (v := undef) (a' := ?_) #[T_, T_, T_, T_, T_, T_, T_, T_, T_, T_, T_, T_, T_, T_, T_, T_, T_, T_, T_, T_, T_, T_, T_, T_, T_, T_, T_, F_, F_] rfl rfl (any_of HT_.out (by kernel_rfl)) (fun _ _ _ h => h) (Or.inr ⟨by rfl, rfl⟩) ?_ ?_
    rotate_left
    ·simp only [Act.put, la_, lz_, ls_, i64_w, i32_w]
     rfl
    refine pure_ (i := 27) (N := some 67) (v := undef) (a' := ?_) #[T_, T_, T_, T_, T_, T_, T_, T_, T_, T_, T_, T_, T_, T_, T_, T_, T_, T_, T_, T_, T_, T_, T_, T_, T_, T_, T_, T_, F_] rfl rfl (any_of HT_.out (by kernel_rfl)) (fun _ _ _ h => h) (Or.inr ⟨by rfl, rfl⟩) ?_ ?_
    rotate_left
    ·simp only [Act.put, la_, lz_, ls_, i64_w, i32_w]
     rfl
    refine pure_ (i := 28) (N := some 68) (v := ?_) (a' := ?_) #[T_, T_, T_, T_, T_, T_, T_, T_, T_, T_, T_, T_, T_, T_, T_, T_, T_, T_, T_, T_, T_, T_, T_, T_, T_, T_, T_, T_, T_] rfl rfl (any_of HT_.out (by kernel_rfl)) (fun _ _ _ h => h) (Or.inl ⟨by rfl, ?_⟩) ?_ ?_
    rotate_left
    ·intro w'
     go_simp
     with_reducible rfl
    rotate_left
    ·simp only [Act.put, la_, lz_, ls_, i64_w, i32_w]
     rfl
    refine done_ (done_of HT_.out (by kernel_rfl)) ?_
    have hnb5920210222 := NB210_222.out
    have hnc5920210222 := NB222_210.out
    obtain ⟨_, _, _, _, _, _, _, _⟩ := cells4_ BK210.out
    try go_wp2
    refine bodyPost_ret (results_ct rfl _ _ gb210 40 #[.int .i64 0, .int .i64 0, .int .i64 0, .slice none 0 0] (0, 0) _ rfl (by (with_reducible repeat (first | refine bn_ ?_ _ | refine bw_ ?_ | refine ba_ ?_ _)); refine blk_put (cs := #[.int .i64 0, .int .i64 0, .int .i64 0, .slice none 0 0]) ?_ 3 _ rfl; (with_reducible repeat (first | refine bn_ ?_ _ | refine bw_ ?_ | refine ba_ ?_ _)); refine blk_put (cs := #[.int .i64 0, .int .i64 0, .int .i64 0, .slice none 0 0]) ?_ 2 _ rfl; (with_reducible repeat (first | refine bn_ ?_ _ | refine bw_ ?_ | refine ba_ ?_ _)); refine blk_put (cs := #[.int .i64 0, .int .i64 0, .int .i64 0, .slice none 0 0]) ?_ 1 _ rfl; (with_reducible repeat (first | refine bn_ ?_ _ | refine bw_ ?_ | refine ba_ ?_ _)); refine blk_put (cs := #[.int .i64 0, .int .i64 0, .int .i64 0, .slice none 0 0]) ?_ 0 _ rfl; (with_reducible repeat (first | refine bn_ ?_ _ | refine bw_ ?_ | refine ba_ ?_ _)); exact BK210.out) Try.underlying40 rfl (by kernel_rfl)) rfl ?_
    exact ⟨_, by first | rfl | (simp [errW_none, errW_some] <;> rfl) | (simp [*, errW_none, errW_some] <;> rfl), by first | exact Kd.R_nil _ _ _ _ _ | exact Kd.N_nil _ _ _ _ _ | exact Kd.V_nil _ _ _ _ _ | exact Kd.Q_nil _ _ _ _ _ | exact Kd.S_nil _ _ _ _ _, us_ HB.out⟩
   ·have p24840 : 0 ≤ (2 : Int) := (by omega)
    have q24840 : 2 < (l2.length : Int) := of_decide_eq_true (by first | (with_reducible assumption) | assumption)
    obtain ⟨ad24840, e24840, hx224_0⟩ := Kd.at_int HR2.out 2 p24840 q24840
    have hw224_0 := hx224_0
    (try rw [show ((2 : Int)).toNat = 2 from rfl] at hw224_0)
    (try rw [show 2 * 1 = 2 from rfl] at hw224_0)
    (try simp only [Nat.reduceMul, Nat.reduceEqDiff, Go.Addr.add, ↓reduceIte] at hw224_0)
    obtain rfl : ad19240 = ad24840 := (by injection e24840)
    (try simp only [show (2 : Int).toNat = 2 from rfl, Nat.reduceMul, Nat.reduceEqDiff, Go.Addr.add, ↓reduceIte] at hx224_0)
    have qi24840 : (2 < l2.length) = True := eq_true (by omega)
    (try rw [show ((2 : Int)).toNat = 2 from rfl] at hx224_0)
    replace hx224_0 := (HB.out.cell (lc_ w _ hx224_0)).trans hx224_0
    replace p24840 := eq_true p24840
    replace q24840 := eq_true q24840
    refine start_ (n := 29) (S := fun w' => w'.cell? ⟨gb20325, 0, none⟩ = some (.int .i64 a0) ∧ w'.cell? ⟨gb20325, 1, none⟩ = some (.int .i64 (wrap64 (rd l2 0))) ∧ w'.cell? ⟨gb20325, 2, none⟩ = some (.int .i64 (wrap64 (rd l2 1))) ∧ w'.cell? ⟨gb20325, 3, none⟩ = some (.slice Ao5040221 y219.length co5040221) ∧ w'.cell? ⟨ad19240.block, ad19240.off + 2, none⟩ = some (.int .u8 (rd l2 2))) (ds := []) #[F_, F_, F_, F_, F_, F_, F_, F_, F_, F_, F_, F_, F_, F_, F_, F_, F_, F_, F_, F_, F_, F_, F_, F_, F_, F_, F_, F_, F_] (by kernel_rfl) rfl rfl ⟨(blk_cell BK222.out 0).trans rfl, (blk_cell BK222.out 1).trans rfl, (blk_cell BK222.out 2).trans rfl, (blk_cell BK222.out 3).trans rfl, ((HB.out.cell (lc_ w _ hw224_0)).trans hw224_0)⟩ (fun hHeld => ?_); refine with_tabW spec_MailFrom.tab4 spec_MailFrom.bits4 (fun HT_ HW_ => ?_)
    generalize w22400.drew = w25200 at HO221 BK210 BK222 HB hx224_0 hHeld ⊢
    refine take_ (i := 0) (N := some 40) (v := ?_) (a' := ?_) #[T_, F_, F_, F_, F_, F_, F_, F_, F_, F_, F_, F_, F_, F_, F_, F_, F_, F_, F_, F_, F_, F_, F_, F_, F_, F_, F_, F_, F_] rfl rfl (take_ofW HT_.out HW_.out (by kernel_rfl)) (fun _ _ _ h => h) (Or.inl ⟨by rfl, ?_⟩) hHeld ?_ ?_
    rotate_left
    ·rintro w' ⟨s3320, s3321, s25240, s25241, s25242⟩
     go_simp
     with_reducible rfl
    rotate_left
    ·simp only [Act.put, la_, lz_, ls_, i64_w, i32_w]
     rfl
    refine one_ (i := 1) (N := some 41) #[T_, T_, F_, F_, F_, F_, F_, F_, F_, F_, F_, F_, F_, F_, F_, F_, F_, F_, F_, F_, F_, F_, F_, F_, F_, F_, F_, F_, F_] rfl rfl (one_of HT_.out (by kernel_rfl)) (by decide) (fun K hK => ?_)
    refine goes_ Try.func41 (by kernel_rfl) rfl #[.agg #[.int .i64 a0, .int .i64 (wrap64 (rd l2 0)), .int .i64 (wrap64 (rd l2 1)), .slice Ao5040221 y219.length co5040221]] (by rfl) rfl rfl (by (try simp only [lm_, lo_, ln_]); try rfl) ?_
    with_reducible refine (spec_MailOk.calls a0 (wrap64 (rd l2 0)) (wrap64 (rd l2 1)) _ _ y219 true _ ?side1 ?side2 A17.out).mono ?_
    (case side1 => repeat (first | exact (Kd.R_reads' HO221.out).2.2 | (with_reducible refine Kd.C_alloc ?_ _) | (with_reducible refine Kd.C_drewN ?_ _) | (with_reducible refine Kd.C_drew ?_)))
    (case side2 => exact (Kd.R_reads' HO221.out).2.1)
    rintro e w13400 ⟨rfl, hb⟩
    refine ⟨_, rfl, ?_⟩
    have n0_ := mk_ (Kd.R_below (Kd.ur_ HO221.out) hb)
    have n1_ := mk_ (blk_below (u_ BK210.out) hb)
    have n2_ := mk_ (blk_below (u_ BK222.out) hb)
    have n3_ := mk_ (below_step (us_ HB.out) hb)
    clear HO221
    clear BK210
    clear BK222
    clear HB
    have HO221 := n0_
    have BK210 := n1_
    have BK222 := n2_
    have HB := n3_
    clear n0_ n1_ n2_ n3_
    (try clear hb)
    (try clear hb2)
    (try clear hk)
    (try clear hi)
    refine hK.out _ _ ⟨(blk_cell BK222.out 0).trans rfl, (blk_cell BK222.out 1).trans rfl, (blk_cell BK222.out 2).trans rfl, (blk_cell BK222.out 3).trans rfl, ((HB.out.cell (lc_ w _ hw224_0)).trans hw224_0)⟩ (fun hHeld => ?_)
    clear hK K
    refine norm_ (a' := ?_) ?_ ?_
    rotate_left
    ·show Act.put _ (some 41) _ = _
     simp only [Act.put, la_, lz_, ls_, i64_w, i32_w]
     rfl
    refine pure_ (i := 2) (N := some 42) (v := ?_) (a' := ?_) #[T_, T_, T_, F_, F_, F_, F_, F_, F_, F_, F_, F_, F_, F_, F_, F_, F_, F_, F_, F_, F_, F_, F_, F_, F_, F_, F_, F_, F_] rfl rfl (any_of HT_.out (by kernel_rfl)) (fun _ _ _ h => h) (Or.inl ⟨by rfl, ?_⟩) ?_ ?_
    rotate_left
    ·intro w'
     go_simp
     with_reducible rfl
    rotate_left
    ·simp only [Act.put, la_, lz_, ls_, i64_w, i32_w]
     rfl
    refine pure_ (i := 3) (N := some 43) (v := ?_) (a' := ?_) #[T_, T_, T_, T_, F_, F_, F_, F_, F_, F_, F_, F_, F_, F_, F_, F_, F_, F_, F_, F_, F_, F_, F_, F_, F_, F_, F_, F_, F_] rfl rfl (any_of HT_.out (by kernel_rfl)) (fun _ _ _ h => h) (Or.inl ⟨by rfl, ?_⟩) ?_ ?_
    rotate_left
    ·intro w'
     go_simp
     with_reducible rfl
    rotate_left
    ·simp only [Act.put, la_, lz_, ls_, i64_w, i32_w]
     rfl
    refine pure_ (i := 4) (N := some 44) (v := ?_) (a' := ?_) #[T_, T_, T_, T_, T_, F_, F_, F_, F_, F_, F_, F_, F_, F_, F_, F_, F_, F_, F_, F_, F_, F_, F_, F_, F_, F_, F_, F_, F_] rfl rfl (any_of HT_.out (by kernel_rfl)) (fun _ _ _ h => h) (Or.inl ⟨by rfl, ?_⟩) ?_ ?_
    rotate_left
    ·intro w'
     go_simp
     with_reducible rfl
    rotate_left
    ·simp only [Act.put, la_, lz_, ls_, i64_w, i32_w]
     rfl
    refine pure_ (i := 5) (N := some 45) (v := ?_) (a' := ?_) #[T_, T_, T_, T_, T_, T_, F_, F_, F_, F_, F_, F_, F_, F_, F_, F_, F_, F_, F_, F_, F_, F_, F_, F_, F_, F_, F_, F_, F_] rfl rfl (any_of HT_.out (by kernel_rfl)) (fun _ _ _ h => h) (Or.inl ⟨by rfl, ?_⟩) ?_ ?_
    rotate_left
    ·intro w'
     go_simp
     with_reducible rfl
    rotate_left
    ·simp only [Act.put, la_, lz_, ls_, i64_w, i32_w]
     rfl
    refine pure_ (i := 8) (N := some 48) (v := ?_) (a' := ?_) #[T_, T_, T_, T_, T_, T_, F_, F_, T_, F_, F_, F_, F_, F_, F_, F_, F_, F_, F_, F_, F_, F_, F_, F_, F_, F_, F_, F_, F_] rfl rfl (any_of HT_.out (by kernel_rfl)) (fun _ _ _ h => h) (Or.inl ⟨by rfl, ?_⟩) ?_ ?_
    rotate_left
    ·intro w'
     go_simp
     with_reducible rfl
    rotate_left
    ·simp only [Act.put, la_, lz_, ls_, i64_w, i32_w]
     rfl
    refine take_ (i := 6) (N := some 46) (v := ?_) (a' := ?_) #[T_, T_, T_, T_, T_, T_, T_, F_, T_, F_, F_, F_, F_, F_, F_, F_, F_, F_, F_, F_, F_, F_, F_, F_, F_, F_, F_, F_, F_] rfl rfl (take_ofW HT_.out HW_.out (by kernel_rfl)) (fun _ _ _ h => h) (Or.inl ⟨by rfl, ?_⟩) hHeld ?_ ?_
    rotate_left
    ·rintro w' ⟨s3320, s3321, s25240, s25241, s25242⟩
     go_simp
     with_reducible rfl
    rotate_left
    ·simp only [Act.put, la_, lz_, ls_, i64_w, i32_w]
     rfl
    refine pure_ (i := 7) (N := some 47) (v := ?_) (a' := ?_) #[T_, T_, T_, T_, T_, T_, T_, T_, T_, F_, F_, F_, F_, F_, F_, F_, F_, F_, F_, F_, F_, F_, F_, F_, F_, F_, F_, F_, F_] rfl rfl (any_of HT_.out (by kernel_rfl)) (fun _ _ _ h => h) (Or.inl ⟨by rfl, ?_⟩) ?_ ?_
    rotate_left
    ·intro w'
     go_simp
     with_reducible rfl
    rotate_left
    ·simp only [Act.put, la_, lz_, ls_, i64_w, i32_w]
     rfl
    refine take_ (i := 9) (N := some 49) (v := ?_) (a' := ?_) #[T_, T_, T_, T_, T_, T_, T_, T_, T_, T_, F_, F_, F_, F_, F_, F_, F_, F_, F_, F_, F_, F_, F_, F_, F_, F_, F_, F_, F_] rfl rfl (take_ofW HT_.out HW_.out (by kernel_rfl)) (fun _ _ _ h => h) (Or.inl ⟨by rfl, ?_⟩) hHeld ?_ ?_
    rotate_left
    ·rintro w' ⟨s3320, s3321, s25240, s25241, s25242⟩
     go_simp
     with_reducible rfl
    rotate_left
    ·simp only [Act.put, la_, lz_, ls_, i64_w, i32_w]
     rfl
    refine pure_ (i := 10) (N := some 50) (v := ?_) (a' := ?_) #[T_, T_, T_, T_, T_, T_, T_, T_, T_, T_, T_, F_, F_, F_, F_, F_, F_, F_, F_, F_, F_, F_, F_, F_, F_, F_, F_, F_, F_] rfl rfl (any_of HT_.out (by kernel_rfl)) (fun _ _ _ h => h) (Or.inl ⟨by rfl, ?_⟩) ?_ ?_
    rotate_left
    ·intro w'
     go_simp
     with_reducible rfl
    rotate_left
    ·simp only [Act.put, la_, lz_, ls_, i64_w, i32_w]
     rfl
    refine pure_ (i := 11) (N := some 51) (v := ?_) (a' := ?_) #[T_, T_, T_, T_, T_, T_, T_, T_, T_, T_, T_, T_, F_, F_, F_, F_, F_, F_, F_, F_, F_, F_, F_, F_, F_, F_, F_, F_, F_] rfl rfl (any_of HT_.out (by kernel_rfl)) (fun _ _ _ h => h) (Or.inl ⟨by rfl, ?_⟩) ?_ ?_
    rotate_left
    ·intro w'
     go_simp
     with_reducible rfl
    rotate_left
    ·simp only [Act.put, la_, lz_, ls_, i64_w, i32_w]
     rfl
    refine pure_ (i := 12) (N := some 52) (v := ?_) (a' := ?_) #[T_, T_, T_, T_, T_, T_, T_, T_, T_, T_, T_, T_, T_, F_, F_, F_, F_, F_, F_, F_, F_, F_, F_, F_, F_, F_, F_, F_, F_] rfl rfl (any_of HT_.out (by kernel_rfl)) (fun _ _ _ h => h) (Or.inl ⟨by rfl, ?_⟩) ?_ ?_
    rotate_left
    ·intro w'
     go_simp
     with_reducible rfl
    rotate_left
    ·simp only [Act.put, la_, lz_, ls_, i64_w, i32_w]
     rfl
    refine pure_ (i := 13) (N := some 53) (v := ?_) (a' := ?_) #[T_, T_, T_, T_, T_, T_, T_, T_, T_, T_, T_, T_, T_, T_, F_, F_, F_, F_, F_, F_, F_, F_, F_, F_, F_, F_, F_, F_, F_] rfl rfl (any_of HT_.out (by kernel_rfl)) (fun _ _ _ h => h) (Or.inl ⟨by rfl, ?_⟩) ?_ ?_
    rotate_left
    ·intro w'
     go_simp
     with_reducible rfl
    rotate_left
    ·simp only [Act.put, la_, lz_, ls_, i64_w, i32_w]
     rfl
    refine pure_ (i := 14) (N := some 54) (v := undef) (a' := ?_) #[T_, T_, T_, T_, T_, T_, T_, T_, T_, T_, T_, T_, T_, T_, T_, F_, F_, F_, F_, F_, F_, F_, F_, F_, F_, F_, F_, F_, F_] rfl rfl (any_of HT_.out (by kernel_rfl)) (fun _ _ _ h => h) (Or.inr ⟨by rfl, rfl⟩) ?_ ?_
    rotate_left
    ·simp only [Act.put, la_, lz_, ls_, i64_w, i32_w]
     rfl
    refine pure_ (i := 15) (N := some 55) (v := undef) (a' := ?_) #[T_, T_, T_, T_, T_, T_, T_, T_, T_, T_, T_, T_, T_, T_, T_, T_, F_, F_, F_, F_, F_, F_, F_, F_, F_, F_, F_, F_, F_] rfl rfl (any_of HT_.out (by kernel_rfl)) (fun _ _ _ h => h) (Or.inr ⟨by rfl, rfl⟩) ?_ ?_
    rotate_left
    ·simp only [Act.put, la_, lz_, ls_, i64_w, i32_w]
     rfl
    refine pure_ (i := 16) (N := some 56) (v := undef) (a' := ?_) #[T_, T_, T_, T_, T_, T_, T_, T_, T_, T_, T_, T_, T_, T_, T_, T_, T_, F_, F_, F_, F_, F_, F_, F_, F_, F_, F_, F_, F_] rfl rfl (any_of HT_.out (by kernel_rfl)) (fun _ _ _ h => h) (Or.inr ⟨by rfl, rfl⟩) ?_ ?_
    rotate_left
    ·simp only [Act.put, la_, lz_, ls_, i64_w, i32_w]
     rfl
    refine pure_ (i := 17) (N := some 57) (v := undef) (a' := ?_) #[T_, T_, T_, T_, T_, T_, T_, T_, T_, T_, T_, T_, T_, T_, T_, T_, T_, T_, F_, F_, F_, F_, F_, F_, F_, F_, F_, F_, F_] rfl rfl (any_of HT_.out (by kernel_rfl)) (fun _ _ _ h => h) (Or.inr ⟨by rfl, rfl⟩) ?_ ?_
    rotate_left
    ·simp only [Act.put, la_, lz_, ls_, i64_w, i32_w]
     rfl
    refine pure_ (i := 18) (N := some 58) (v := undef) (a' := ?_) #[T_, T_, T_, T_, T_, T_, T_, T_, T_, T_, T_, T_, T_, T_, T_, T_, T_, T_, T_, F_, F_, F_, F_, F_, F_, F_, F_, F_, F_] rfl rfl (any_of HT_.out (by kernel_rfl)) (fun _ _ _ h => h) (Or.inr ⟨by rfl, rfl⟩) ?_ ?_
    rotate_left
    ·simp only [Act.put, la_, lz_, ls_, i64_w, i32_w]
     rfl
    refine pure_ (i := 19) (N := some 59) (v := undef) (a' := ?_) #[T_, T_, T_, T_, T_, T_, T_, T_, T_, T_, T_, T_, T_, T_, T_, T_, T_, T_, T_, T_, F_, F_, F_, F_, F_, F_, F_, F_, F_] rfl rfl (any_of HT_.out (by kernel_rfl)) (fun _ _ _ h => h) (Or.inr ⟨by rfl, rfl⟩) ?_ ?_
    rotate_left
    ·simp only [Act.put, la_, lz_, ls_, i64_w, i32_w]
     rfl
    refine pure_ (i := 20) (N := some 60) (v := undef) (a' := ?_) #[T_, T_, T_, T_, T_, T_, T_, T_, T_, T_, T_, T_, T_, T_, T_, T_, T_, T_, T_, T_, T_, F_, F_, F_, F_, F_, F_, F_, F_] rfl rfl (any_of HT_.out (by kernel_rfl)) (fun _ _ _ h => h) (Or.inr ⟨by rfl, rfl⟩) ?_ ?_
    rotate_left
    ·simp only [Act.put, la_, lz_, ls_, i64_w, i32_w]
     rfl
    refine pure_ (i := 21) (N := some 61) (v := undef) (a' := ?_) #[T_, T_, T_, T_, T_, T_, T_, T_, T_, T_, T_, T_, T_, T_, T_, T_, T_, T_, T_, T_, T_, T_, F_, F_, F_, F_, F_, F_, F_] rfl rfl (any_of HT_.out (by kernel_rfl)) (fun _ _ _ h => h) (Or.inr ⟨by rfl, rfl⟩) ?_ ?_
    rotate_left
    ·simp only [Act.put, la_, lz_, ls_, i64_w, i32_w]
     rfl
    refine pure_ (i := 22) (N := some 62) (v := undef) (a' := ?_) #[T_, T_, T_, T_, T_, T_, T_, T_, T_, T_, T_, T_, T_, T_, T_, T_, T_, T_, T_, T_, T_, T_, T_, F_, F_, F_, F_, F_, F_] rfl rfl (any_of HT_.out (by kernel_rfl)) (fun _ _ _ h => h) (Or.inr ⟨by rfl, rfl⟩) ?_ ?_
    rotate_left
    ·simp only [Act.put, la_, lz_, ls_, i64_w, i32_w]
     rfl
    refine pure_ (i := 23) (N := some 63) (v := undef) (a' := ?_) #[T_, T_, T_, T_, T_, T_, T_, T_, T_, T_, T_, T_, T_, T_, T_, T_, T_, T_, T_, T_, T_, T_, T_, T_, F_, F_, F_, F_, F_] rfl rfl (any_of HT_.out (by kernel_rfl)) (fun _ _ _ h => h) (Or.inr ⟨by rfl, rfl⟩) ?_ ?_
    rotate_left
    ·simp only [Act.put, la_, lz_, ls_, i64_w, i32_w]
     rfl
    refine pure_ (i := 24) (N := some 64) (v := undef) (a' := ?_) #[T_, T_, T_, T_, T_, T_, T_, T_, T_, T_, T_, T_, T_, T_, T_, T_, T_, T_, T_, T_, T_, T_, T_, T_, T_, F_, F_, F_, F_] rfl rfl (any_of HT_.out (by kernel_rfl)) (fun _ _ _ h => h) (Or.inr ⟨by rfl, rfl⟩) ?_ ?_
    rotate_left
    ·simp only [Act.put, la_, lz_, ls_, i64_w, i32_w]
     rfl
    refine pure_ (i := 25) (N := some 65) (v := undef) (a' := ?_) #[T_, T_, T_, T_, T_, T_, T_, T_, T_, T_, T_, T_, T_, T_, T_, T_, T_, T_, T_, T_, T_, T_, T_, T_, T_, T_, F_, F_, F_] rfl rfl (any_of HT_.out (by kernel_rfl)) (fun _ _ _ h => h) (Or.inr ⟨by rfl, rfl⟩) ?_ ?_
    rotate_left
    ·simp only [Act.put, la_, lz_, ls_, i64_w, i32_w]
     rfl
    refine pure_ (i := 26) (N := some 66) (v := undef) (a' := ?_) #[T_, T_, T_, T_, T_, T_, T_, T_, T_, T_, T_, T_, T_, T_, T_, T_, T_, T_, T_, T_, T_, T_, T_, T_, T_, T_, T_, F_, F_] rfl rfl (any_of HT_.out (by kernel_rfl)) (fun _ _ _ h => h) (Or.inr ⟨by rfl, rfl⟩) ?_ ?_
    rotate_left
    ·simp only [Act.put, la_, lz_, ls_, i64_w, i32_w]
     rfl
    refine pure_ (i := 27) (N := some 67) (v := undef) (a' := ?_) #[T_, T_, T_, T_, T_, T_, T_, T_, T_, T_, T_, T_, T_, T_, T_, T_, T_, T_, T_, T_, T_, T_, T_, T_, T_, T_, T_, T_, F_] rfl rfl (any_of HT_.out (by kernel_rfl)) (fun _ _ _ h => h) (Or.inr ⟨by rfl, rfl⟩) ?_ ?_
    rotate_left
    ·simp only [Act.put, la_, lz_, ls_, i64_w, i32_w]
     rfl
    refine pure_ (i := 28) (N := some 68) (v := ?_) (a' := ?_) #[T_, T_, T_, T_, T_, T_, T_, T_, T_, T_, T_, T_, T_, T_, T_, T_, T_, T_, T_, T_, T_, T_, T_, T_, T_, T_, T_, T_, T_] rfl rfl (any_of HT_.out (by kernel_rfl)) (fun _ _ _ h => h) (Or.inl ⟨by rfl, ?_⟩) ?_ ?_
    rotate_left
    ·intro w'
     go_simp
     with_reducible rfl
    rotate_left
    ·simp only [Act.put, la_, lz_, ls_, i64_w, i32_w]
     rfl
    refine done_ (done_of HT_.out (by kernel_rfl)) ?_
    have hnb5920210222 := NB210_222.out
    have hnc5920210222 := NB222_210.out
    obtain ⟨_, _, _, _, _, _, _, _⟩ := cells4_ BK210.out
    try go_wp2
    refine bodyPost_ret (results_ct rfl _ _ gb210 40 #[.int .i64 0, .int .i64 0, .int .i64 0, .slice none 0 0] (0, 0) _ rfl (by (with_reducible repeat (first | refine bn_ ?_ _ | refine bw_ ?_ | refine ba_ ?_ _)); refine blk_put (cs := #[.int .i64 0, .int .i64 0, .int .i64 0, .slice none 0 0]) ?_ 3 _ rfl; (with_reducible repeat (first | refine bn_ ?_ _ | refine bw_ ?_ | refine ba_ ?_ _)); refine blk_put (cs := #[.int .i64 0, .int .i64 0, .int .i64 0, .slice none 0 0]) ?_ 2 _ rfl; (with_reducible repeat (first | refine bn_ ?_ _ | refine bw_ ?_ | refine ba_ ?_ _)); refine blk_put (cs := #[.int .i64 0, .int .i64 0, .int .i64 0, .slice none 0 0]) ?_ 1 _ rfl; (with_reducible repeat (first | refine bn_ ?_ _ | refine bw_ ?_ | refine ba_ ?_ _)); refine blk_put (cs := #[.int .i64 0, .int .i64 0, .int .i64 0, .slice none 0 0]) ?_ 0 _ rfl; (with_reducible repeat (first | refine bn_ ?_ _ | refine bw_ ?_ | refine ba_ ?_ _)); exact BK210.out) Try.underlying40 rfl (by kernel_rfl)) rfl ?_
    exact ⟨_, by first | rfl | (simp [errW_none, errW_some] <;> rfl) | (simp [*, errW_none, errW_some] <;> rfl), by first | exact Kd.R_nil _ _ _ _ _ | exact Kd.N_nil _ _ _ _ _ | exact Kd.V_nil _ _ _ _ _ | exact Kd.Q_nil _ _ _ _ _ | exact Kd.S_nil _ _ _ _ _, us_ HB.out⟩
   all_goals
    obtain ⟨A19961, hcut19961, hA19961, hC19961⟩ := print_mid_of (P := Try.prog) (Value.int .u8) 0 29 5 .i64 .i64 Try.underlying29 hi19960 hsz19961 (some ad19240) c2 l2 3 (ji22) (by omega) (by first | omega | exact of_decide_eq_true (by first | (with_reducible assumption) | assumption)) (of_decide_eq_true (by first | (with_reducible assumption) | assumption)) HC2.out
    have HR20040 := mk_ (Kd.C_of_reads (h1 := fun _ => rfl) (hA19961 _ (Kd.reads_of_C HR2.out)))
    have HC20040 := mk_ hC19961
    clear hA19961 hC19961 hi19960 hsz19961
    refine start_ (n := 19) (S := fun w' => w'.cell? ad19240 = some (.int .u8 (rd l2 0)) ∧ w'.cell? ⟨ad19240.block, ad19240.off + 1, none⟩ = some (.int .u8 (rd l2 1))) (ds := []) #[F_, F_, F_, F_, F_, F_, F_, F_, F_, F_, F_, F_, F_, F_, F_, F_, F_, F_, F_] (by kernel_rfl) rfl rfl ⟨((HB.out.cell (lc_ w _ hw213_0)).trans hw213_0), ((HB.out.cell (lc_ w _ hw214_0)).trans hw214_0)⟩ (fun hHeld => ?_); refine with_tabW spec_MailFrom.tab3 spec_MailFrom.bits3 (fun HT_ HW_ => ?_)
    generalize wc.drew = w20200 at BK210 HB HR20040 hx213_0 hx214_0 hHeld ⊢
    refine pure_ (i := 0) (N := some 23) (v := ?_) (a' := ?_) #[T_, F_, F_, F_, F_, F_, F_, F_, F_, F_, F_, F_, F_, F_, F_, F_, F_, F_, F_] rfl rfl (any_of HT_.out (by kernel_rfl)) (fun _ _ _ h => h) (Or.inl ⟨by rfl, ?_⟩) ?_ ?_
    rotate_left
    ·intro w'
     go_simp
     with_reducible rfl
    rotate_left
    ·simp only [Act.put, la_, lz_, ls_, i64_w, i32_w]
     rfl
    refine pure_ (i := 1) (N := some 24) (v := ?_) (a' := ?_) #[T_, T_, F_, F_, F_, F_, F_, F_, F_, F_, F_, F_, F_, F_, F_, F_, F_, F_, F_] rfl rfl (any_of HT_.out (by kernel_rfl)) (fun _ _ _ h => h) (Or.inl ⟨by rfl, ?_⟩) ?_ ?_
    rotate_left
    ·intro w'
     go_simp
     with_reducible rfl
    rotate_left
    ·simp only [Act.put, la_, lz_, ls_, i64_w, i32_w]
     rfl
    refine pure_ (i := 2) (N := some 25) (v := ?_) (a' := ?_) #[T_, T_, T_, F_, F_, F_, F_, F_, F_, F_, F_, F_, F_, F_, F_, F_, F_, F_, F_] rfl rfl (any_of HT_.out (by kernel_rfl)) (fun _ _ _ h => h) (Or.inl ⟨by rfl, ?_⟩) ?_ ?_
    rotate_left
    ·intro w'
     go_simp
     with_reducible rfl
    rotate_left
    ·simp only [Act.put, la_, lz_, ls_, i64_w, i32_w]
     rfl
    refine pure_ (i := 5) (N := some 28) (v := ?_) (a' := ?_) #[T_, T_, T_, F_, F_, T_, F_, F_, F_, F_, F_, F_, F_, F_, F_, F_, F_, F_, F_] rfl rfl (any_of HT_.out (by kernel_rfl)) (fun _ _ _ h => h) (Or.inl ⟨by rfl, ?_⟩) ?_ ?_
    rotate_left
    ·intro w'
     go_simp
     with_reducible rfl
    rotate_left
    ·simp only [Act.put, la_, lz_, ls_, i64_w, i32_w]
     rfl
    refine pure_ (i := 6) (N := some 29) (v := ?_) (a' := ?_) #[T_, T_, T_, F_, F_, T_, T_, F_, F_, F_, F_, F_, F_, F_, F_, F_, F_, F_, F_] rfl rfl (any_of HT_.out (by kernel_rfl)) (fun _ _ _ h => h) (Or.inl ⟨by rfl, ?_⟩) ?_ ?_
    rotate_left
    ·intro w'
     go_simp
     with_reducible rfl
    rotate_left
    ·simp only [Act.put, la_, lz_, ls_, i64_w, i32_w]
     rfl
    refine pure_ (i := 10) (N := some 33) (v := ?_) (a' := ?_) #[T_, T_, T_, F_, F_, T_, T_, F_, F_, F_, T_, F_, F_, F_, F_, F_, F_, F_, F_] rfl rfl (any_of HT_.out (by kernel_rfl)) (fun _ _ _ h => h) (Or.inl ⟨by rfl, ?_⟩) ?_ ?_
    rotate_left
    ·intro w'
     go_simp
     with_reducible rfl
    rotate_left
    ·simp only [Act.put, la_, lz_, ls_, i64_w, i32_w]
     rfl
    refine pure_ (i := 11) (N := some 34) (v := ?_) (a' := ?_) #[T_, T_, T_, F_, F_, T_, T_, F_, F_, F_, T_, T_, F_, F_, F_, F_, F_, F_, F_] rfl rfl (any_of HT_.out (by kernel_rfl)) (fun _ _ _ h => h) (Or.inl ⟨by rfl, ?_⟩) ?_ ?_
    rotate_left
    ·intro w'
     go_simp
     with_reducible rfl
    rotate_left
    ·simp only [Act.put, la_, lz_, ls_, i64_w, i32_w]
     rfl
    refine pure_ (i := 12) (N := some 35) (v := ?_) (a' := ?_) #[T_, T_, T_, F_, F_, T_, T_, F_, F_, F_, T_, T_, T_, F_, F_, F_, F_, F_, F_] rfl rfl (any_of HT_.out (by kernel_rfl)) (fun _ _ _ h => h) (Or.inl ⟨by rfl, ?_⟩) ?_ ?_
    rotate_left
    ·intro w'
     go_simp
     with_reducible rfl
    rotate_left
    ·simp only [Act.put, la_, lz_, ls_, i64_w, i32_w]
     rfl
    refine pure_ (i := 13) (N := some 36) (v := ?_) (a' := ?_) #[T_, T_, T_, F_, F_, T_, T_, F_, F_, F_, T_, T_, T_, T_, F_, F_, F_, F_, F_] rfl rfl (any_of HT_.out (by kernel_rfl)) (fun _ _ _ h => h) (Or.inl ⟨by rfl, ?_⟩) ?_ ?_
    rotate_left
    ·intro w'
     go_simp
     with_reducible rfl
    rotate_left
    ·simp only [Act.put, la_, lz_, ls_, i64_w, i32_w]
     rfl
    refine pure_ (i := 14) (N := some 37) (v := ?_) (a' := ?_) #[T_, T_, T_, F_, F_, T_, T_, F_, F_, F_, T_, T_, T_, T_, T_, F_, F_, F_, F_] rfl rfl (any_of HT_.out (by kernel_rfl)) (fun _ _ _ h => h) (Or.inl ⟨by rfl, ?_⟩) ?_ ?_
    rotate_left
    ·intro w'
     go_simp
     with_reducible rfl
    rotate_left
    ·simp only [Act.put, la_, lz_, ls_, i64_w, i32_w]
     rfl
    refine take_ (i := 3) (N := some 26) (v := ?_) (a' := ?_) #[T_, T_, T_, T_, F_, T_, T_, F_, F_, F_, T_, T_, T_, T_, T_, F_, F_, F_, F_] rfl rfl (take_ofW HT_.out HW_.out (by kernel_rfl)) (fun _ _ _ h => h) (Or.inl ⟨by rfl, ?_⟩) hHeld ?_ ?_
    rotate_left
    ·rintro w' ⟨s3320, s3321⟩
     go_simp
     with_reducible rfl
    rotate_left
    ·simp only [Act.put, la_, lz_, ls_, i64_w, i32_w]
     rfl
    refine pure_ (i := 4) (N := some 27) (v := ?_) (a' := ?_) #[T_, T_, T_, T_, T_, T_, T_, F_, F_, F_, T_, T_, T_, T_, T_, F_, F_, F_, F_] rfl rfl (any_of HT_.out (by kernel_rfl)) (fun _ _ _ h => h) (Or.inl ⟨by rfl, ?_⟩) ?_ ?_
    rotate_left
    ·intro w'
     go_simp
     with_reducible rfl
    rotate_left
    ·simp only [Act.put, la_, lz_, ls_, i64_w, i32_w]
     rfl
    refine take_ (i := 7) (N := some 30) (v := ?_) (a' := ?_) #[T_, T_, T_, T_, T_, T_, T_, T_, F_, F_, T_, T_, T_, T_, T_, F_, F_, F_, F_] rfl rfl (take_ofW HT_.out HW_.out (by kernel_rfl)) (fun _ _ _ h => h) (Or.inl ⟨by rfl, ?_⟩) hHeld ?_ ?_
    rotate_left
    ·rintro w' ⟨s3320, s3321⟩
     go_simp
     with_reducible rfl
    rotate_left
    ·simp only [Act.put, la_, lz_, ls_, i64_w, i32_w]
     rfl
    refine pure_ (i := 8) (N := some 31) (v := ?_) (a' := ?_) #[T_, T_, T_, T_, T_, T_, T_, T_, T_, F_, T_, T_, T_, T_, T_, F_, F_, F_, F_] rfl rfl (any_of HT_.out (by kernel_rfl)) (fun _ _ _ h => h) (Or.inl ⟨by rfl, ?_⟩) ?_ ?_
    rotate_left
    ·intro w'
     go_simp
     with_reducible rfl
    rotate_left
    ·simp only [Act.put, la_, lz_, ls_, i64_w, i32_w]
     rfl
    refine join_ (σ := Value × Value × Nat) 1 #[T_, T_, T_, T_, T_, T_, T_, T_, T_, T_, T_, T_, T_, T_, T_, T_, T_, T_, F_] (fun s_ => [(32, s_.1), (38, s_.2.1), (8, .pointer (some ⟨s_.2.2, 0, none⟩)), (39, .agg #[.int .i64 a0, .int .i64 (wrap64 (rd l2 0)), .int .i64 (wrap64 (rd l2 1)), s_.2.1])]) (fun s_ w' => (w'.cell? ad19240 = some (.int .u8 (rd l2 0)) ∧ w'.cell? ⟨ad19240.block, ad19240.off + 1, none⟩ = some (.int .u8 (rd l2 1))) ∧ (Kd.R (Kd.int .u8) 5 w' w.heap.size (fun _ => True) s_.2.1 y219) ∧ (w'.heap[gb210]? = some (.cells #[.int .i64 0, .int .i64 0, .int .i64 0, .slice none 0 0] 40 (0, 0))) ∧ (w'.heap[s_.2.2]? = some (.cells #[.int .i64 0, .int .i64 0, .int .i64 0, .slice none 0 0] 40 (0, 0))) ∧ (w.heap.size ≤ s_.2.2) ∧ (w.heap.size ≤ s_.2.2) ∧ (gb210 ≠ s_.2.2) ∧ (s_.2.2 ≠ gb210) ∧ (Below w.heap.size w w')) ?_ ?_
    rotate_left
    ·intro hCont
     refine two_ (i := 9) (j := 17) (Ni := some 32) (Nj := some 8) #[T_, T_, T_, T_, T_, T_, T_, T_, T_, T_, T_, T_, T_, T_, T_, F_, F_, F_, F_] #[T_, T_, T_, T_, T_, T_, T_, T_, T_, F_, T_, T_, T_, T_, T_, F_, F_, T_, F_] rfl rfl rfl rfl (two_of HT_.out (by kernel_rfl)) (by decide) (by decide) (fun K hK => ?_) (fun K hK => ?_)
     ·skip
      refine Kd.R_lit_step (Kd.int .u8) _ 5 ?hg (N := 32) ?hd (xs := ([] : List Int)) (inner := []) (ok := fun _ => True) (okp := fun _ => True) ?hr ?hp (fun _ hk => hk) trivial (Below.refl _ _) (Nat.le_refl _) (by simp) ?_; (case hd => rfl); (case hg => rfl); (case hr => first | (go_simp; done) | (go_simp; rfl)); (case hp => exact (Reps.none _ _))
      intro v20320 w20321 ho20322 hb hg_ hnew_
      clear hg_ hnew_
      (first | rw [← Ny215.out] at ho20322 | (simp only [Int.reduceToNat] at ho20322; rw [← Ny215.out] at ho20322))
      have n0_ := mk_ (Kd.R_lower ho20322 (below_size (us_ HB.out)))
      have n1_ := mk_ (blk_below (u_ BK210.out) hb)
      have n2_ := mk_ (below_step (us_ HB.out) hb)
      clear BK210
      clear HB
      have HO217 := n0_
      have BK210 := n1_
      have HB := n2_
      clear n0_ n1_ n2_
      clear hb ho20322
      refine hK.out _ _ ⟨((HB.out.cell (lc_ w _ hw213_0)).trans hw213_0), ((HB.out.cell (lc_ w _ hw214_0)).trans hw214_0)⟩ (fun hHeld => ?_)
      clear hK K
      refine norm_ (a' := ?_) ?_ ?_
      rotate_left
      ·show Act.put _ (some 32) _ = _
       simp only [Act.put, la_, lz_, ls_, i64_w, i32_w]
       rfl
      refine two_ (i := 15) (j := 17) (Ni := some 38) (Nj := some 8) #[T_, T_, T_, T_, T_, T_, T_, T_, T_, T_, T_, T_, T_, T_, T_, T_, F_, F_, F_] #[T_, T_, T_, T_, T_, T_, T_, T_, T_, T_, T_, T_, T_, T_, T_, F_, F_, T_, F_] rfl rfl rfl rfl (two_of HT_.out (by kernel_rfl)) (by decide) (by decide) (fun K hK => ?_) (fun K hK => ?_)
      ·skip
       refine Kd.R_append_rows_step (Kd.int .u8) (w0 := w) w.heap.size (by rfl) (.tmp 32) (.tmp 37) 29 5 (.int .u8 0) 1 rfl Try.underlying29 info5 rfl (by decide) (by omega) v20320 y215 ((l2.take ((ji22) : Int).toNat).drop 3) _ _ _ (fun _ => True) (fun _ => False) rfl rfl ?aO ?aR (fun _ _ h => h) (fun _ h => h.elim) ?aF ?aB ?aS ?aL ?_
       (case aR => first | (have e_ := (Kd.C_below HR20040.out HB.out); rw [show ((l2.take ((ji22) : Int).toNat).drop 3).length = ((ji22).toNat - 3) from (by rw [List.length_drop, List.length_take]; have h_ : ((ji22) : Int) ≤ (l2.length : Int) := of_decide_eq_true (by first | (with_reducible assumption) | assumption); omega)] at e_; exact e_) | (rw [← show ((l2.take ((ji22) : Int).toNat).drop 3).length = ((ji22).toNat - 3) from (by rw [List.length_drop, List.length_take]; have h_ : ((ji22) : Int) ≤ (l2.length : Int) := of_decide_eq_true (by first | (with_reducible assumption) | assumption); omega)]; repeat (first | exact (Kd.C_below HR20040.out HB.out) | (with_reducible refine Kd.C_alloc ?_ _) | (with_reducible refine Kd.C_drewN ?_ _) | (with_reducible refine Kd.C_drew ?_))) | (repeat (first | exact (Kd.C_below HR20040.out HB.out) | (with_reducible refine Kd.C_alloc ?_ _) | (with_reducible refine Kd.C_drewN ?_ _) | (with_reducible refine Kd.C_drew ?_))))
       (case aB => exact (us_ HB.out))
       (case aF => exact (fun _ _ => trivial))
       (case aO => exact (Kd.ur_ HO217.out))
       (case aS => exact (below_size (us_ HB.out)))
       (case aL => have := LMc16.out; have hlx_ := (show ((l2.take ((ji22) : Int).toNat).drop 3).length = ((ji22).toNat - 3) from (by rw [List.length_drop, List.length_take]; have h_ : ((ji22) : Int) ≤ (l2.length : Int) := of_decide_eq_true (by first | (with_reducible assumption) | assumption); omega)); omega)
       intro v20323 w20324 ho hb hg hat
       rw [← Ny219.out] at ho
       have n0_ := mk_ (blk_grown (g := gb210) (o := .cells #[.int .i64 0, .int .i64 0, .int .i64 0, .slice none 0 0] 40 (0, 0)) (u_ BK210.out) hg (Kd.R_ne HO217.out BK210.out (by decide)))
       have n1_ := mk_ (hb)
       have n2_ := mk_ (ho)
       clear BK210
       clear HB
       clear HO217
       have BK210 := n0_
       have HB := n1_
       have HO221 := n2_
       clear n0_ n1_ n2_
       clear ho hb hg hat
       obtain ⟨Ao4830221, co4830221, eo4830221⟩ := Kd.R_slice HO221.out
       (first | subst eo4830221 | (injection eo4830221 with f1_ f2_ f3_; have f4_ := f1_.symm; have f5_ := f3_.symm; clear f1_ f2_ f3_; subst f4_; subst f5_))
       refine hK.out _ _ ⟨((HB.out.cell (lc_ w _ hw213_0)).trans hw213_0), ((HB.out.cell (lc_ w _ hw214_0)).trans hw214_0)⟩ (fun hHeld => ?_)
       clear hK K
       refine norm_ (a' := ?_) ?_ ?_
       rotate_left
       ·show Act.put _ (some 38) _ = _
        simp only [Act.put, la_, lz_, ls_, i64_w, i32_w]
        rfl
       refine pure_ (i := 16) (N := some 39) (v := ?_) (a' := ?_) #[T_, T_, T_, T_, T_, T_, T_, T_, T_, T_, T_, T_, T_, T_, T_, T_, T_, F_, F_] rfl rfl (any_of HT_.out (by kernel_rfl)) (fun _ _ _ h => h) (Or.inl ⟨by rfl, ?_⟩) ?_ ?_
       rotate_left
       ·intro w'
        go_simp
        with_reducible rfl
       rotate_left
       ·simp only [Act.put, la_, lz_, ls_, i64_w, i32_w]
        rfl
       refine one_ (i := 17) (N := some 8) #[T_, T_, T_, T_, T_, T_, T_, T_, T_, T_, T_, T_, T_, T_, T_, T_, T_, T_, F_] rfl rfl (one_of HT_.out (by kernel_rfl)) (by decide) (fun K hK => ?_)
       refine box_step ?hg (N := 8) ?hd (cs := #[.int .i64 0, .int .i64 0, .int .i64 0, .slice none 0 0]) (t := 40) ?hr ?_; (case hd => rfl); (case hg => rfl); (case hr => first | (go_simp; done) | (go_simp; rfl))
       intro gb20325 hg w4830221 hbox hb
       have n0_ := mk_ (Kd.R_below (Kd.ur_ HO221.out) hb)
       have n1_ := mk_ (blk_below (u_ BK210.out) hb)
       have n2_ := mk_ (below_step (us_ HB.out) hb)
       have n3_ := mk_ (hbox)
       have n4_ := mk_ ((by rw [hg]; exact (below_size (us_ HB.out)) : w.heap.size ≤ gb20325))
       have n5_ := mk_ ((by rw [hg]; exact (below_size (us_ HB.out)) : w.heap.size ≤ gb20325))
       have n6_ := mk_ ((by rw [hg]; exact Nat.ne_of_lt (blk_lt (u_ BK210.out)) : gb210 ≠ gb20325))
       have n7_ := mk_ ((by rw [hg]; exact Nat.ne_of_gt (blk_lt (u_ BK210.out)) : gb20325 ≠ gb210))
       clear HO221
       clear BK210
       clear HB
       have HO221 := n0_
       have BK210 := n1_
       have HB := n2_
       have BK222 := n3_
       have GW222 := n4_
       have GE222 := ge_ n5_.out
       have NB210_222 := nq_ n6_.out
       have NB222_210 := nq_ n7_.out
       clear n0_ n1_ n2_ n3_ n4_ n5_ n6_ n7_
       clear hb hbox hg
       refine hK.out _ _ ⟨((HB.out.cell (lc_ w _ hw213_0)).trans hw213_0), ((HB.out.cell (lc_ w _ hw214_0)).trans hw214_0)⟩ (fun hHeld => ?_)
       clear hK K
       refine norm_ (a' := ?_) ?_ ?_
       rotate_left
       ·show Act.put _ (some 8) _ = _
        simp only [Act.put, la_, lz_, ls_, i64_w, i32_w]
        rfl
       exact norm_ (by simp only [putAll, Act.put, la_, lz_, ls_]) (hCont (v20320, .slice Ao4830221 y219.length co4830221, gb20325) _ ⟨hHeld, (Kd.ur_ HO221.out), (u_ BK210.out), (u_ BK222.out), GW222.out, GE222.out, NB210_222.out, NB222_210.out, (us_ HB.out)⟩)
      skip
      refine box_step ?hg (N := 8) ?hd (cs := #[.int .i64 0, .int .i64 0, .int .i64 0, .slice none 0 0]) (t := 40) ?hr ?_; (case hd => rfl); (case hg => rfl); (case hr => first | (go_simp; done) | (go_simp; rfl))
      intro gb20325 hg w20324 hbox hb
      have n0_ := mk_ (Kd.R_below (Kd.ur_ HO217.out) hb)
      have n1_ := mk_ (blk_below (u_ BK210.out) hb)
      have n2_ := mk_ (below_step (us_ HB.out) hb)
      have n3_ := mk_ (hbox)
      have n4_ := mk_ ((by rw [hg]; exact (below_size (us_ HB.out)) : w.heap.size ≤ gb20325))
      have n5_ := mk_ ((by rw [hg]; exact (below_size (us_ HB.out)) : w.heap.size ≤ gb20325))
      have n6_ := mk_ ((by rw [hg]; exact Nat.ne_of_lt (blk_lt (u_ BK210.out)) : gb210 ≠ gb20325))
      have n7_ := mk_ ((by rw [hg]; exact Nat.ne_of_gt (blk_lt (u_ BK210.out)) : gb20325 ≠ gb210))
      clear HO217
      clear BK210
      clear HB
      have HO217 := n0_
      have BK210 := n1_
      have HB := n2_
      have BK222 := n3_
      have GW222 := n4_
      have GE222 := ge_ n5_.out
      have NB210_222 := nq_ n6_.out
      have NB222_210 := nq_ n7_.out
      clear n0_ n1_ n2_ n3_ n4_ n5_ n6_ n7_
      clear hb hbox hg
      refine hK.out _ _ ⟨((HB.out.cell (lc_ w _ hw213_0)).trans hw213_0), ((HB.out.cell (lc_ w _ hw214_0)).trans hw214_0)⟩ (fun hHeld => ?_)
      clear hK K
      refine norm_ (a' := ?_) ?_ ?_
      rotate_left
      ·show Act.put _ (some 8) _ = _
       simp only [Act.put, la_, lz_, ls_, i64_w, i32_w]
       rfl
      refine one_ (i := 15) (N := some 38) #[T_, T_, T_, T_, T_, T_, T_, T_, T_, T_, T_, T_, T_, T_, T_, T_, F_, T_, F_] rfl rfl (one_of HT_.out (by kernel_rfl)) (by decide) (fun K hK => ?_)
      refine Kd.R_append_rows_step (Kd.int .u8) (w0 := w) w.heap.size (by rfl) (.tmp 32) (.tmp 37) 29 5 (.int .u8 0) 1 rfl Try.underlying29 info5 rfl (by decide) (by omega) v20320 y215 ((l2.take ((ji22) : Int).toNat).drop 3) _ _ _ (fun _ => True) (fun _ => False) rfl rfl ?aO ?aR (fun _ _ h => h) (fun _ h => h.elim) ?aF ?aB ?aS ?aL ?_
      (case aR => first | (have e_ := (Kd.C_below HR20040.out HB.out); rw [show ((l2.take ((ji22) : Int).toNat).drop 3).length = ((ji22).toNat - 3) from (by rw [List.length_drop, List.length_take]; have h_ : ((ji22) : Int) ≤ (l2.length : Int) := of_decide_eq_true (by first | (with_reducible assumption) | assumption); omega)] at e_; exact e_) | (rw [← show ((l2.take ((ji22) : Int).toNat).drop 3).length = ((ji22).toNat - 3) from (by rw [List.length_drop, List.length_take]; have h_ : ((ji22) : Int) ≤ (l2.length : Int) := of_decide_eq_true (by first | (with_reducible assumption) | assumption); omega)]; repeat (first | exact (Kd.C_below HR20040.out HB.out) | (with_reducible refine Kd.C_alloc ?_ _) | (with_reducible refine Kd.C_drewN ?_ _) | (with_reducible refine Kd.C_drew ?_))) | (repeat (first | exact (Kd.C_below HR20040.out HB.out) | (with_reducible refine Kd.C_alloc ?_ _) | (with_reducible refine Kd.C_drewN ?_ _) | (with_reducible refine Kd.C_drew ?_))))
      (case aB => exact (us_ HB.out))
      (case aF => exact (fun _ _ => trivial))
      (case aO => exact (Kd.ur_ HO217.out))
      (case aS => exact (below_size (us_ HB.out)))
      (case aL => have := LMc16.out; have hlx_ := (show ((l2.take ((ji22) : Int).toNat).drop 3).length = ((ji22).toNat - 3) from (by rw [List.length_drop, List.length_take]; have h_ : ((ji22) : Int) ≤ (l2.length : Int) := of_decide_eq_true (by first | (with_reducible assumption) | assumption); omega)); omega)
      intro v20323 w4830221 ho hb hg hat
      rw [← Ny219.out] at ho
      have n0_ := mk_ (blk_grown (g := gb210) (o := .cells #[.int .i64 0, .int .i64 0, .int .i64 0, .slice none 0 0] 40 (0, 0)) (u_ BK210.out) hg (Kd.R_ne HO217.out BK210.out (by decide)))
      have n1_ := mk_ (blk_grown (g := gb20325) (o := .cells #[.int .i64 0, .int .i64 0, .int .i64 0, .slice none 0 0] 40 (0, 0)) (u_ BK222.out) hg (Kd.R_ne HO217.out BK222.out (by decide)))
      have n2_ := mk_ (hb)
      have n3_ := mk_ (ho)
      clear BK210
      clear BK222
      clear HB
      clear HO217
      have BK210 := n0_
      have BK222 := n1_
      have HB := n2_
      have HO221 := n3_
      clear n0_ n1_ n2_ n3_
      clear ho hb hg hat
      obtain ⟨Ao4830221, co4830221, eo4830221⟩ := Kd.R_slice HO221.out
      (first | subst eo4830221 | (injection eo4830221 with f1_ f2_ f3_; have f4_ := f1_.symm; have f5_ := f3_.symm; clear f1_ f2_ f3_; subst f4_; subst f5_))
      refine hK.out _ _ ⟨((HB.out.cell (lc_ w _ hw213_0)).trans hw213_0), ((HB.out.cell (lc_ w _ hw214_0)).trans hw214_0)⟩ (fun hHeld => ?_)
      clear hK K
      refine norm_ (a' := ?_) ?_ ?_
      rotate_left
      ·show Act.put _ (some 38) _ = _
       simp only [Act.put, la_, lz_, ls_, i64_w, i32_w]
       rfl
      refine pure_ (i := 16) (N := some 39) (v := ?_) (a' := ?_) #[T_, T_, T_, T_, T_, T_, T_, T_, T_, T_, T_, T_, T_, T_, T_, T_, T_, T_, F_] rfl rfl (any_of HT_.out (by kernel_rfl)) (fun _ _ _ h => h) (Or.inl ⟨by rfl, ?_⟩) ?_ ?_
      rotate_left
      ·intro w'
       go_simp
       with_reducible rfl
      rotate_left
      ·simp only [Act.put, la_, lz_, ls_, i64_w, i32_w]
       rfl
      exact norm_ (by simp only [putAll, Act.put, la_, lz_, ls_]) (hCont (v20320, .slice Ao4830221 y219.length co4830221, gb20325) _ ⟨hHeld, (Kd.ur_ HO221.out), (u_ BK210.out), (u_ BK222.out), GW222.out, GE222.out, NB210_222.out, NB222_210.out, (us_ HB.out)⟩)
     skip
     refine box_step ?hg (N := 8) ?hd (cs := #[.int .i64 0, .int .i64 0, .int .i64 0, .slice none 0 0]) (t := 40) ?hr ?_; (case hd => rfl); (case hg => rfl); (case hr => first | (go_simp; done) | (go_simp; rfl))
     intro gb20325 hg w20321 hbox hb
     have n0_ := mk_ (blk_below (u_ BK210.out) hb)
     have n1_ := mk_ (below_step (us_ HB.out) hb)
     have n2_ := mk_ (hbox)
     have n3_ := mk_ ((by rw [hg]; exact (below_size (us_ HB.out)) : w.heap.size ≤ gb20325))
     have n4_ := mk_ ((by rw [hg]; exact (below_size (us_ HB.out)) : w.heap.size ≤ gb20325))
     have n5_ := mk_ ((by rw [hg]; exact Nat.ne_of_lt (blk_lt (u_ BK210.out)) : gb210 ≠ gb20325))
     have n6_ := mk_ ((by rw [hg]; exact Nat.ne_of_gt (blk_lt (u_ BK210.out)) : gb20325 ≠ gb210))
     clear BK210
     clear HB
     have BK210 := n0_
     have HB := n1_
     have BK222 := n2_
     have GW222 := n3_
     have GE222 := ge_ n4_.out
     have NB210_222 := nq_ n5_.out
     have NB222_210 := nq_ n6_.out
     clear n0_ n1_ n2_ n3_ n4_ n5_ n6_
     clear hb hbox hg
     refine hK.out _ _ ⟨((HB.out.cell (lc_ w _ hw213_0)).trans hw213_0), ((HB.out.cell (lc_ w _ hw214_0)).trans hw214_0)⟩ (fun hHeld => ?_)
     clear hK K
     refine norm_ (a' := ?_) ?_ ?_
     rotate_left
     ·show Act.put _ (some 8) _ = _
      simp only [Act.put, la_, lz_, ls_, i64_w, i32_w]
      rfl
     refine one_ (i := 9) (N := some 32) #[T_, T_, T_, T_, T_, T_, T_, T_, T_, T_, T_, T_, T_, T_, T_, F_, F_, T_, F_] rfl rfl (one_of HT_.out (by kernel_rfl)) (by decide) (fun K hK => ?_)
     refine Kd.R_lit_step (Kd.int .u8) _ 5 ?hg (N := 32) ?hd (xs := ([] : List Int)) (inner := []) (ok := fun _ => True) (okp := fun _ => True) ?hr ?hp (fun _ hk => hk) trivial (Below.refl _ _) (Nat.le_refl _) (by simp) ?_; (case hd => rfl); (case hg => rfl); (case hr => first | (go_simp; done) | (go_simp; rfl)); (case hp => exact (Reps.none _ _))
     intro v20320 w20322 ho20324 hb hg_ hnew_
     clear hg_ hnew_
     (first | rw [← Ny215.out] at ho20324 | (simp only [Int.reduceToNat] at ho20324; rw [← Ny215.out] at ho20324))
     have n0_ := mk_ (Kd.R_lower ho20324 (below_size (us_ HB.out)))
     have n1_ := mk_ (blk_below (u_ BK210.out) hb)
     have n2_ := mk_ (blk_below (u_ BK222.out) hb)
     have n3_ := mk_ (below_step (us_ HB.out) hb)
     clear BK210
     clear BK222
     clear HB
     have HO217 := n0_
     have BK210 := n1_
     have BK222 := n2_
     have HB := n3_
     clear n0_ n1_ n2_ n3_
     clear hb ho20324
     refine hK.out _ _ ⟨((HB.out.cell (lc_ w _ hw213_0)).trans hw213_0), ((HB.out.cell (lc_ w _ hw214_0)).trans hw214_0)⟩ (fun hHeld => ?_)
     clear hK K
     refine norm_ (a' := ?_) ?_ ?_
     rotate_left
     ·show Act.put _ (some 32) _ = _
      simp only [Act.put, la_, lz_, ls_, i64_w, i32_w]
      rfl
     refine one_ (i := 15) (N := some 38) #[T_, T_, T_, T_, T_, T_, T_, T_, T_, T_, T_, T_, T_, T_, T_, T_, F_, T_, F_] rfl rfl (one_of HT_.out (by kernel_rfl)) (by decide) (fun K hK => ?_)
     refine Kd.R_append_rows_step (Kd.int .u8) (w0 := w) w.heap.size (by rfl) (.tmp 32) (.tmp 37) 29 5 (.int .u8 0) 1 rfl Try.underlying29 info5 rfl (by decide) (by omega) v20320 y215 ((l2.take ((ji22) : Int).toNat).drop 3) _ _ _ (fun _ => True) (fun _ => False) rfl rfl ?aO ?aR (fun _ _ h => h) (fun _ h => h.elim) ?aF ?aB ?aS ?aL ?_
     (case aR => first | (have e_ := (Kd.C_below HR20040.out HB.out); rw [show ((l2.take ((ji22) : Int).toNat).drop 3).length = ((ji22).toNat - 3) from (by rw [List.length_drop, List.length_take]; have h_ : ((ji22) : Int) ≤ (l2.length : Int) := of_decide_eq_true (by first | (with_reducible assumption) | assumption); omega)] at e_; exact e_) | (rw [← show ((l2.take ((ji22) : Int).toNat).drop 3).length = ((ji22).toNat - 3) from (by rw [List.length_drop, List.length_take]; have h_ : ((ji22) : Int) ≤ (l2.length : Int) := of_decide_eq_true (by first | (with_reducible assumption) | assumption); omega)]; repeat (first | exact (Kd.C_below HR20040.out HB.out) | (with_reducible refine Kd.C_alloc ?_ _) | (with_reducible refine Kd.C_drewN ?_ _) | (with_reducible refine Kd.C_drew ?_))) | (repeat (first | exact (Kd.C_below HR20040.out HB.out) | (with_reducible refine Kd.C_alloc ?_ _) | (with_reducible refine Kd.C_drewN ?_ _) | (with_reducible refine Kd.C_drew ?_))))
     (case aB => exact (us_ HB.out))
     (case aF => exact (fun _ _ => trivial))
     (case aO => exact (Kd.ur_ HO217.out))
     (case aS => exact (below_size (us_ HB.out)))
     (case aL => have := LMc16.out; have hlx_ := (show ((l2.take ((ji22) : Int).toNat).drop 3).length = ((ji22).toNat - 3) from (by rw [List.length_drop, List.length_take]; have h_ : ((ji22) : Int) ≤ (l2.length : Int) := of_decide_eq_true (by first | (with_reducible assumption) | assumption); omega)); omega)
     intro v20323 w4830221 ho hb hg hat
     rw [← Ny219.out] at ho
     have n0_ := mk_ (blk_grown (g := gb210) (o := .cells #[.int .i64 0, .int .i64 0, .int .i64 0, .slice none 0 0] 40 (0, 0)) (u_ BK210.out) hg (Kd.R_ne HO217.out BK210.out (by decide)))
     have n1_ := mk_ (blk_grown (g := gb20325) (o := .cells #[.int .i64 0, .int .i64 0, .int .i64 0, .slice none 0 0] 40 (0, 0)) (u_ BK222.out) hg (Kd.R_ne HO217.out BK222.out (by decide)))
     have n2_ := mk_ (hb)
     have n3_ := mk_ (ho)
     clear BK210
     clear BK222
     clear HB
     clear HO217
     have BK210 := n0_
     have BK222 := n1_
     have HB := n2_
     have HO221 := n3_
     clear n0_ n1_ n2_ n3_
     clear ho hb hg hat
     obtain ⟨Ao4830221, co4830221, eo4830221⟩ := Kd.R_slice HO221.out
     (first | subst eo4830221 | (injection eo4830221 with f1_ f2_ f3_; have f4_ := f1_.symm; have f5_ := f3_.symm; clear f1_ f2_ f3_; subst f4_; subst f5_))
     refine hK.out _ _ ⟨((HB.out.cell (lc_ w _ hw213_0)).trans hw213_0), ((HB.out.cell (lc_ w _ hw214_0)).trans hw214_0)⟩ (fun hHeld => ?_)
     clear hK K
     refine norm_ (a' := ?_) ?_ ?_
     rotate_left
     ·show Act.put _ (some 38) _ = _
      simp only [Act.put, la_, lz_, ls_, i64_w, i32_w]
      rfl
     refine pure_ (i := 16) (N := some 39) (v := ?_) (a' := ?_) #[T_, T_, T_, T_, T_, T_, T_, T_, T_, T_, T_, T_, T_, T_, T_, T_, T_, T_, F_] rfl rfl (any_of HT_.out (by kernel_rfl)) (fun _ _ _ h => h) (Or.inl ⟨by rfl, ?_⟩) ?_ ?_
     rotate_left
     ·intro w'
      go_simp
      with_reducible rfl
     rotate_left
     ·simp only [Act.put, la_, lz_, ls_, i64_w, i32_w]
      rfl
     exact norm_ (by simp only [putAll, Act.put, la_, lz_, ls_]) (hCont (v20320, .slice Ao4830221 y219.length co4830221, gb20325) _ ⟨hHeld, (Kd.ur_ HO221.out), (u_ BK210.out), (u_ BK222.out), GW222.out, GE222.out, NB210_222.out, NB222_210.out, (us_ HB.out)⟩)
    rintro ⟨v20320, v20323, gb20325⟩ w20360 ⟨hS_, h0_, h1_, h2_, h3_, h4_, h5_, h6_, h7_⟩
    have n0_ : Aside0 (Kd.R (Kd.int .u8) 5 w20360 w.heap.size (fun _ => True) v20323 y219) := ⟨h0_⟩
    have n1_ : Aside0 (w20360.heap[gb210]? = some (.cells #[.int .i64 0, .int .i64 0, .int .i64 0, .slice none 0 0] 40 (0, 0))) := ⟨h1_⟩
    have n2_ : Aside0 (w20360.heap[gb20325]? = some (.cells #[.int .i64 0, .int .i64 0, .int .i64 0, .slice none 0 0] 40 (0, 0))) := ⟨h2_⟩
    have n3_ : Aside0 (w.heap.size ≤ gb20325) := ⟨h3_⟩
    have n4_ : Aside0 (w.heap.size ≤ gb20325) := ⟨h4_⟩
    have n5_ : Aside0 (gb210 ≠ gb20325) := ⟨h5_⟩
    have n6_ : Aside0 (gb20325 ≠ gb210) := ⟨h6_⟩
    have n7_ : Aside0 (Below w.heap.size w w20360) := ⟨h7_⟩
    clear BK210
    clear HB
    clear h0_ h1_ h2_ h3_ h4_ h5_ h6_ h7_
    have HO221 := n0_
    have BK210 := n1_
    have BK222 := n2_
    have GW222 := n3_
    have GE222 := ge_ n4_.out
    have NB210_222 := nq_ n5_.out
    have NB222_210 := nq_ n6_.out
    have HB := n7_
    clear n0_ n1_ n2_ n3_ n4_ n5_ n6_ n7_
    have hHeld : w20360.cell? ad19240 = some (.int .u8 (rd l2 0)) ∧ w20360.cell? ⟨ad19240.block, ad19240.off + 1, none⟩ = some (.int .u8 (rd l2 1)) := hS_
    obtain ⟨Ao5040221, co5040221, eo5040221⟩ := Kd.R_slice HO221.out
    (first | subst eo5040221 | (injection eo5040221 with f1_ f2_ f3_; have f4_ := f1_.symm; have f5_ := f3_.symm; clear f1_ f2_ f3_; subst f4_; subst f5_))
    refine norm_ (a' := ?_) ?_ ?_
    rotate_left
    ·simp only [putAll, Act.put, la_, lz_, ls_]
     rfl
    refine one_ (i := 18) (N := none) #[T_, T_, T_, T_, T_, T_, T_, T_, T_, T_, T_, T_, T_, T_, T_, T_, T_, T_, T_] rfl rfl (one_of HT_.out (by kernel_rfl)) (by decide) (fun K hK => ?_)
    have hs21320 : w20360.cell? ⟨gb20325, 0, none⟩ = some (.int .i64 0) := (blk_cell BK222.out 0).trans rfl
    have hfs21320 := blk_frozen BK222.out 0
    have hns21320_0 := NB210_222.out
    have hms21320_0 := NB222_210.out
    have hs21480 : w20360.cell? ⟨gb20325, 1, none⟩ = some (.int .i64 0) := (blk_cell BK222.out 1).trans rfl
    have hfs21480 := blk_frozen BK222.out 1
    have hns21480_0 := NB210_222.out
    have hms21480_0 := NB222_210.out
    have hs21640 : w20360.cell? ⟨gb20325, 2, none⟩ = some (.int .i64 0) := (blk_cell BK222.out 2).trans rfl
    have hfs21640 := blk_frozen BK222.out 2
    have hns21640_0 := NB210_222.out
    have hms21640_0 := NB222_210.out
    have hs21800 : w20360.cell? ⟨gb20325, 3, none⟩ = some (.slice none 0 0) := (blk_cell BK222.out 3).trans rfl
    have hfs21800 := blk_frozen BK222.out 3
    have hns21800_0 := NB210_222.out
    have hms21800_0 := NB222_210.out
    refine skip_ (w1 := ?_) (by rfl) rfl ?_ ?_
    rotate_left
    ·go_simp
     rfl
    refine hK.out _ _ ⟨((cell_far (p := ⟨gb20325, _, none⟩) (by first | exact (ne1_ (by have := lc_ _ _ hw213_0; first | rwa [add_block] at this | exact this) GW222.out) | (rw [add_block]; exact (ne1_ (by have := lc_ _ _ hw213_0; first | rwa [add_block] at this | exact this) GW222.out)) | (show (Addr.add _ _).block ≠ _; rw [add_block]; exact (ne1_ (by have := lc_ _ _ hw213_0; first | rwa [add_block] at this | exact this) GW222.out)) | (dsimp only; exact (ne1_ (by have := lc_ _ _ hw213_0; first | rwa [add_block] at this | exact this) GW222.out))) _).trans (((cell_far (p := ⟨gb20325, _, none⟩) (by first | exact (ne1_ (by have := lc_ _ _ hw213_0; first | rwa [add_block] at this | exact this) GW222.out) | (rw [add_block]; exact (ne1_ (by have := lc_ _ _ hw213_0; first | rwa [add_block] at this | exact this) GW222.out)) | (show (Addr.add _ _).block ≠ _; rw [add_block]; exact (ne1_ (by have := lc_ _ _ hw213_0; first | rwa [add_block] at this | exact this) GW222.out)) | (dsimp only; exact (ne1_ (by have := lc_ _ _ hw213_0; first | rwa [add_block] at this | exact this) GW222.out))) _).trans (((cell_far (p := ⟨gb20325, _, none⟩) (by first | exact (ne1_ (by have := lc_ _ _ hw213_0; first | rwa [add_block] at this | exact this) GW222.out) | (rw [add_block]; exact (ne1_ (by have := lc_ _ _ hw213_0; first | rwa [add_block] at this | exact this) GW222.out)) | (show (Addr.add _ _).block ≠ _; rw [add_block]; exact (ne1_ (by have := lc_ _ _ hw213_0; first | rwa [add_block] at this | exact this) GW222.out)) | (dsimp only; exact (ne1_ (by have := lc_ _ _ hw213_0; first | rwa [add_block] at this | exact this) GW222.out))) _).trans (((cell_far (p := ⟨gb20325, _, none⟩) (by first | exact (ne1_ (by have := lc_ _ _ hw213_0; first | rwa [add_block] at this | exact this) GW222.out) | (rw [add_block]; exact (ne1_ (by have := lc_ _ _ hw213_0; first | rwa [add_block] at this | exact this) GW222.out)) | (show (Addr.add _ _).block ≠ _; rw [add_block]; exact (ne1_ (by have := lc_ _ _ hw213_0; first | rwa [add_block] at this | exact this) GW222.out)) | (dsimp only; exact (ne1_ (by have := lc_ _ _ hw213_0; first | rwa [add_block] at this | exact this) GW222.out))) _).trans (hHeld.1)))))))), ((cell_far (p := ⟨gb20325, _, none⟩) (by first | exact (ne1_ (by have := lc_ _ _ hw214_0; first | rwa [add_block] at this | exact this) GW222.out) | (rw [add_block]; exact (ne1_ (by have := lc_ _ _ hw214_0; first | rwa [add_block] at this | exact this) GW222.out)) | (show (Addr.add _ _).block ≠ _; rw [add_block]; exact (ne1_ (by have := lc_ _ _ hw214_0; first | rwa [add_block] at this | exact this) GW222.out)) | (dsimp only; exact (ne1_ (by have := lc_ _ _ hw214_0; first | rwa [add_block] at this | exact this) GW222.out))) _).trans (((cell_far (p := ⟨gb20325, _, none⟩) (by first | exact (ne1_ (by have := lc_ _ _ hw214_0; first | rwa [add_block] at this | exact this) GW222.out) | (rw [add_block]; exact (ne1_ (by have := lc_ _ _ hw214_0; first | rwa [add_block] at this | exact this) GW222.out)) | (show (Addr.add _ _).block ≠ _; rw [add_block]; exact (ne1_ (by have := lc_ _ _ hw214_0; first | rwa [add_block] at this | exact this) GW222.out)) | (dsimp only; exact (ne1_ (by have := lc_ _ _ hw214_0; first | rwa [add_block] at this | exact this) GW222.out))) _).trans (((cell_far (p := ⟨gb20325, _, none⟩) (by first | exact (ne1_ (by have := lc_ _ _ hw214_0; first | rwa [add_block] at this | exact this) GW222.out) | (rw [add_block]; exact (ne1_ (by have := lc_ _ _ hw214_0; first | rwa [add_block] at this | exact this) GW222.out)) | (show (Addr.add _ _).block ≠ _; rw [add_block]; exact (ne1_ (by have := lc_ _ _ hw214_0; first | rwa [add_block] at this | exact this) GW222.out)) | (dsimp only; exact (ne1_ (by have := lc_ _ _ hw214_0; first | rwa [add_block] at this | exact this) GW222.out))) _).trans (((cell_far (p := ⟨gb20325, _, none⟩) (by first | exact (ne1_ (by have := lc_ _ _ hw214_0; first | rwa [add_block] at this | exact this) GW222.out) | (rw [add_block]; exact (ne1_ (by have := lc_ _ _ hw214_0; first | rwa [add_block] at this | exact this) GW222.out)) | (show (Addr.add _ _).block ≠ _; rw [add_block]; exact (ne1_ (by have := lc_ _ _ hw214_0; first | rwa [add_block] at this | exact this) GW222.out)) | (dsimp only; exact (ne1_ (by have := lc_ _ _ hw214_0; first | rwa [add_block] at this | exact this) GW222.out))) _).trans (hHeld.2))))))))⟩ (fun hHeld => ?_)
    clear hK K
    refine done_ (done_of HT_.out (by kernel_rfl)) ?_
    obtain ⟨i25880, hi25880, _, hsz25881, _⟩ := info_parts info5
    obtain ⟨hcut25881, hA25881, hC25881⟩ := print_take_of (P := Try.prog) (Value.int .u8) 0 29 5 .i64 Try.underlying29 hi25880 hsz25881 (some ad19240) c2 l2 (ji22) (of_decide_eq_true (by first | (with_reducible assumption) | assumption)) (of_decide_eq_true (by first | (with_reducible assumption) | assumption)) HC2.out
    have HR25960 := mk_ (Kd.C_of_reads (h1 := fun _ => rfl) (hA25881 _ (Kd.reads_of_C HR2.out)))
    have HC25960 := mk_ hC25881
    clear hA25881 hC25881 hi25880 hsz25881
    try go_wp2
    have n0_ : Aside0 (Kd.R (Kd.int .u8) 5 ((((w20360.setCell ⟨gb20325, 0, none⟩ (.int .i64 a0)).setCell ⟨gb20325, 1, none⟩ (.int .i64 (wrap64 (rd l2 0)))).setCell ⟨gb20325, 2, none⟩ (.int .i64 (wrap64 (rd l2 1)))).setCell ⟨gb20325, 3, none⟩ (.slice Ao5040221 y219.length co5040221)) w.heap.size (fun _ => True) (.slice Ao5040221 y219.length co5040221) y219) := ⟨by (with_reducible repeat (first | apply Kd.R_alloc | apply Kd.R_drewN | apply Kd.R_drew)); exact Kd.R_mono (Kd.R_far (p := ⟨gb20325, 3, none⟩) (Kd.R_far (p := ⟨gb20325, 2, none⟩) (Kd.R_far (p := ⟨gb20325, 1, none⟩) (Kd.R_far (p := ⟨gb20325, 0, none⟩) (Kd.R_types HO221.out BK222.out (by decide)) (fun _ hk => hk.2) (.int .i64 a0)) (fun _ hk => hk.2) (.int .i64 (wrap64 (rd l2 0)))) (fun _ hk => hk.2) (.int .i64 (wrap64 (rd l2 1)))) (fun _ hk => hk.2) (.slice Ao5040221 y219.length co5040221)) (fun _ hk => trivial)⟩
    have n1_ : Aside0 (((((w20360.setCell ⟨gb20325, 0, none⟩ (.int .i64 a0)).setCell ⟨gb20325, 1, none⟩ (.int .i64 (wrap64 (rd l2 0)))).setCell ⟨gb20325, 2, none⟩ (.int .i64 (wrap64 (rd l2 1)))).setCell ⟨gb20325, 3, none⟩ (.slice Ao5040221 y219.length co5040221)).heap[gb210]? = some (.cells #[.int .i64 0, .int .i64 0, .int .i64 0, .slice none 0 0] 40 (0, 0))) := ⟨uf_ BK210.out⟩
    have n2_ : Aside0 (((((w20360.setCell ⟨gb20325, 0, none⟩ (.int .i64 a0)).setCell ⟨gb20325, 1, none⟩ (.int .i64 (wrap64 (rd l2 0)))).setCell ⟨gb20325, 2, none⟩ (.int .i64 (wrap64 (rd l2 1)))).setCell ⟨gb20325, 3, none⟩ (.slice Ao5040221 y219.length co5040221)).heap[gb20325]? = some (.cells #[.int .i64 a0, .int .i64 (wrap64 (rd l2 0)), .int .i64 (wrap64 (rd l2 1)), .slice Ao5040221 y219.length co5040221] 40 (0, 0))) := ⟨by (with_reducible repeat (first | refine bn_ ?_ _ | refine bw_ ?_ | refine ba_ ?_ _)); refine blk_put (cs := #[.int .i64 a0, .int .i64 (wrap64 (rd l2 0)), .int .i64 (wrap64 (rd l2 1)), .slice none 0 0]) ?_ 3 _ rfl; (with_reducible repeat (first | refine bn_ ?_ _ | refine bw_ ?_ | refine ba_ ?_ _)); refine blk_put (cs := #[.int .i64 a0, .int .i64 (wrap64 (rd l2 0)), .int .i64 0, .slice none 0 0]) ?_ 2 _ rfl; (with_reducible repeat (first | refine bn_ ?_ _ | refine bw_ ?_ | refine ba_ ?_ _)); refine blk_put (cs := #[.int .i64 a0, .int .i64 0, .int .i64 0, .slice none 0 0]) ?_ 1 _ rfl; (with_reducible repeat (first | refine bn_ ?_ _ | refine bw_ ?_ | refine ba_ ?_ _)); refine blk_put (cs := #[.int .i64 0, .int .i64 0, .int .i64 0, .slice none 0 0]) ?_ 0 _ rfl; (with_reducible repeat (first | refine bn_ ?_ _ | refine bw_ ?_ | refine ba_ ?_ _)); exact BK222.out⟩
    have n3_ : Aside0 (Below w.heap.size w ((((w20360.setCell ⟨gb20325, 0, none⟩ (.int .i64 a0)).setCell ⟨gb20325, 1, none⟩ (.int .i64 (wrap64 (rd l2 0)))).setCell ⟨gb20325, 2, none⟩ (.int .i64 (wrap64 (rd l2 1)))).setCell ⟨gb20325, 3, none⟩ (.slice Ao5040221 y219.length co5040221))) := ⟨us_ HB.out⟩
    (try clear HO221)
    (try clear BK210)
    (try clear BK222)
    (try clear HB)
    generalize ((((w20360.setCell ⟨gb20325, 0, none⟩ (.int .i64 a0)).setCell ⟨gb20325, 1, none⟩ (.int .i64 (wrap64 (rd l2 0)))).setCell ⟨gb20325, 2, none⟩ (.int .i64 (wrap64 (rd l2 1)))).setCell ⟨gb20325, 3, none⟩ (.slice Ao5040221 y219.length co5040221)) = w22400 at n0_ n1_ n2_ n3_ ⊢
    have HO221 := n0_
    have BK210 := n1_
    have BK222 := n2_
    have HB := n3_
    clear n0_ n1_ n2_ n3_
    have n0_ := mk_ (Kd.R_drew HO221.out)
    have n1_ := mk_ (blk_drew BK210.out)
    have n2_ := mk_ (blk_drew BK222.out)
    have n3_ := mk_ (below_drew1 HB.out)
    clear HO221
    clear BK210
    clear BK222
    clear HB
    have HO221 := n0_
    have BK210 := n1_
    have BK222 := n2_
    have HB := n3_
    clear n0_ n1_ n2_ n3_
    have p24840 : 0 ≤ (2 : Int) := (by omega)
    have q24840 : 2 < (l2.length : Int) := of_decide_eq_true (by first | (with_reducible assumption) | assumption)
    obtain ⟨ad24840, e24840, hx224_0⟩ := Kd.at_int HR2.out 2 p24840 q24840
    have hw224_0 := hx224_0
    (try rw [show ((2 : Int)).toNat = 2 from rfl] at hw224_0)
    (try rw [show 2 * 1 = 2 from rfl] at hw224_0)
    (try simp only [Nat.reduceMul, Nat.reduceEqDiff, Go.Addr.add, ↓reduceIte] at hw224_0)
    obtain rfl : ad19240 = ad24840 := (by injection e24840)
    (try simp only [show (2 : Int).toNat = 2 from rfl, Nat.reduceMul, Nat.reduceEqDiff, Go.Addr.add, ↓reduceIte] at hx224_0)
    have qi24840 : (2 < l2.length) = True := eq_true (by omega)
    (try rw [show ((2 : Int)).toNat = 2 from rfl] at hx224_0)
    replace hx224_0 := (HB.out.cell (lc_ w _ hx224_0)).trans hx224_0
    replace p24840 := eq_true p24840
    replace q24840 := eq_true q24840
    refine start_ (n := 29) (S := fun w' => w'.cell? ⟨gb20325, 0, none⟩ = some (.int .i64 a0) ∧ w'.cell? ⟨gb20325, 1, none⟩ = some (.int .i64 (wrap64 (rd l2 0))) ∧ w'.cell? ⟨gb20325, 2, none⟩ = some (.int .i64 (wrap64 (rd l2 1))) ∧ w'.cell? ⟨gb20325, 3, none⟩ = some (.slice Ao5040221 y219.length co5040221) ∧ w'.cell? ⟨ad19240.block, ad19240.off + 2, none⟩ = some (.int .u8 (rd l2 2))) (ds := []) #[F_, F_, F_, F_, F_, F_, F_, F_, F_, F_, F_, F_, F_, F_, F_, F_, F_, F_, F_, F_, F_, F_, F_, F_, F_, F_, F_, F_, F_] (by kernel_rfl) rfl rfl ⟨(blk_cell BK222.out 0).trans rfl, (blk_cell BK222.out 1).trans rfl, (blk_cell BK222.out 2).trans rfl, (blk_cell BK222.out 3).trans rfl, ((HB.out.cell (lc_ w _ hw224_0)).trans hw224_0)⟩ (fun hHeld => ?_); refine with_tabW spec_MailFrom.tab4 spec_MailFrom.bits4 (fun HT_ HW_ => ?_)
    generalize w22400.drew = w25200 at HO221 BK210 BK222 HB hx224_0 hHeld ⊢
    refine take_ (i := 0) (N := some 40) (v := ?_) (a' := ?_) #[T_, F_, F_, F_, F_, F_, F_, F_, F_, F_, F_, F_, F_, F_, F_, F_, F_, F_, F_, F_, F_, F_, F_, F_, F_, F_, F_, F_, F_] rfl rfl (take_ofW HT_.out HW_.out (by kernel_rfl)) (fun _ _ _ h => h) (Or.inl ⟨by rfl, ?_⟩) hHeld ?_ ?_
    rotate_left
    ·rintro w' ⟨s3320, s3321, s25240, s25241, s25242⟩
     go_simp
     with_reducible rfl
    rotate_left
    ·simp only [Act.put, la_, lz_, ls_, i64_w, i32_w]
     rfl
    refine one_ (i := 1) (N := some 41) #[T_, T_, F_, F_, F_, F_, F_, F_, F_, F_, F_, F_, F_, F_, F_, F_, F_, F_, F_, F_, F_, F_, F_, F_, F_, F_, F_, F_, F_] rfl rfl (one_of HT_.out (by kernel_rfl)) (by decide) (fun K hK => ?_)
    refine goes_ Try.func41 (by kernel_rfl) rfl #[.agg #[.int .i64 a0, .int .i64 (wrap64 (rd l2 0)), .int .i64 (wrap64 (rd l2 1)), .slice Ao5040221 y219.length co5040221]] (by rfl) rfl rfl (by (try simp only [lm_, lo_, ln_]); try rfl) ?_
    with_reducible refine (spec_MailOk.calls a0 (wrap64 (rd l2 0)) (wrap64 (rd l2 1)) _ _ y219 true _ ?side1 ?side2 A17.out).mono ?_
    (case side1 => repeat (first | exact (Kd.R_reads' HO221.out).2.2 | (with_reducible refine Kd.C_alloc ?_ _) | (with_reducible refine Kd.C_drewN ?_ _) | (with_reducible refine Kd.C_drew ?_)))
    (case side2 => exact (Kd.R_reads' HO221.out).2.1)
    rintro e w13400 ⟨rfl, hb⟩
    refine ⟨_, rfl, ?_⟩
    have n0_ := mk_ (Kd.R_below (Kd.ur_ HO221.out) hb)
    have n1_ := mk_ (blk_below (u_ BK210.out) hb)
    have n2_ := mk_ (blk_below (u_ BK222.out) hb)
    have n3_ := mk_ (below_step (us_ HB.out) hb)
    clear HO221
    clear BK210
    clear BK222
    clear HB
    have HO221 := n0_
    have BK210 := n1_
    have BK222 := n2_
    have HB := n3_
    clear n0_ n1_ n2_ n3_
    (try clear hb)
    (try clear hb2)
    (try clear hk)
    (try clear hi)
    refine hK.out _ _ ⟨(blk_cell BK222.out 0).trans rfl, (blk_cell BK222.out 1).trans rfl, (blk_cell BK222.out 2).trans rfl, (blk_cell BK222.out 3).trans rfl, ((HB.out.cell (lc_ w _ hw224_0)).trans hw224_0)⟩ (fun hHeld => ?_)
    clear hK K
    refine norm_ (a' := ?_) ?_ ?_
    rotate_left
    ·show Act.put _ (some 41) _ = _
     simp only [Act.put, la_, lz_, ls_, i64_w, i32_w]
     rfl
    refine pure_ (i := 2) (N := some 42) (v := ?_) (a' := ?_) #[T_, T_, T_, F_, F_, F_, F_, F_, F_, F_, F_, F_, F_, F_, F_, F_, F_, F_, F_, F_, F_, F_, F_, F_, F_, F_, F_, F_, F_] rfl rfl (any_of HT_.out (by kernel_rfl)) (fun _ _ _ h => h) (Or.inl ⟨by rfl, ?_⟩) ?_ ?_
    rotate_left
    ·intro w'
     go_simp
     with_reducible rfl
    rotate_left
    ·simp only [Act.put, la_, lz_, ls_, i64_w, i32_w]
     rfl
    refine pure_ (i := 3) (N := some 43) (v := ?_) (a' := ?_) #[T_, T_, T_, T_, F_, F_, F_, F_, F_, F_, F_, F_, F_, F_, F_, F_, F_, F_, F_, F_, F_, F_, F_, F_, F_, F_, F_, F_, F_] rfl rfl (any_of HT_.out (by kernel_rfl)) (fun _ _ _ h => h) (Or.inl ⟨by rfl, ?_⟩) ?_ ?_
    rotate_left
    ·intro w'
     go_simp
     with_reducible rfl
    rotate_left
    ·simp only [Act.put, la_, lz_, ls_, i64_w, i32_w]
     rfl
    refine pure_ (i := 4) (N := some 44) (v := ?_) (a' := ?_) #[T_, T_, T_, T_, T_, F_, F_, F_, F_, F_, F_, F_, F_, F_, F_, F_, F_, F_, F_, F_, F_, F_, F_, F_, F_, F_, F_, F_, F_] rfl rfl (any_of HT_.out (by kernel_rfl)) (fun _ _ _ h => h) (Or.inl ⟨by rfl, ?_⟩) ?_ ?_
    rotate_left
    ·intro w'
     go_simp
     with_reducible rfl
    rotate_left
    ·simp only [Act.put, la_, lz_, ls_, i64_w, i32_w]
     rfl
    refine pure_ (i := 5) (N := some 45) (v := ?_) (a' := ?_) #[T_, T_, T_, T_, T_, T_, F_, F_, F_, F_, F_, F_, F_, F_, F_, F_, F_, F_, F_, F_, F_, F_, F_, F_, F_, F_, F_, F_, F_] rfl rfl (any_of HT_.out (by kernel_rfl)) (fun _ _ _ h => h) (Or.inl ⟨by rfl, ?_⟩) ?_ ?_
    rotate_left
    ·intro w'
     go_simp
     with_reducible rfl
    rotate_left
    ·simp only [Act.put, la_, lz_, ls_, i64_w, i32_w]
     rfl
    refine pure_ (i := 8) (N := some 48) (v := ?_) (a' := ?_) #[T_, T_, T_, T_, T_, T_, F_, F_, T_, F_, F_, F_, F_, F_, F_, F_, F_, F_, F_, F_, F_, F_, F_, F_, F_, F_, F_, F_, F_] rfl rfl (any_of HT_.out (by kernel_rfl)) (fun _ _ _ h => h) (Or.inl ⟨by rfl, ?_⟩) ?_ ?_
    rotate_left
    ·intro w'
     go_simp
     with_reducible rfl
    rotate_left
    ·simp only [Act.put, la_, lz_, ls_, i64_w, i32_w]
     rfl
    refine take_ (i := 6) (N := some 46) (v := ?_) (a' := ?_) #[T_, T_, T_, T_, T_, T_, T_, F_, T_, F_, F_, F_, F_, F_, F_, F_, F_, F_, F_, F_, F_, F_, F_, F_, F_, F_, F_, F_, F_] rfl rfl (take_ofW HT_.out HW_.out (by kernel_rfl)) (fun _ _ _ h => h) (Or.inl ⟨by rfl, ?_⟩) hHeld ?_ ?_
    rotate_left
    ·rintro w' ⟨s3320, s3321, s25240, s25241, s25242⟩
     go_simp
     with_reducible rfl
    rotate_left
    ·simp only [Act.put, la_, lz_, ls_, i64_w, i32_w]
     rfl
    refine pure_ (i := 7) (N := some 47) (v := ?_) (a' := ?_) #[T_, T_, T_, T_, T_, T_, T_, T_, T_, F_, F_, F_, F_, F_, F_, F_, F_, F_, F_, F_, F_, F_, F_, F_, F_, F_, F_, F_, F_] rfl rfl (any_of HT_.out (by kernel_rfl)) (fun _ _ _ h => h) (Or.inl ⟨by rfl, ?_⟩) ?_ ?_
    rotate_left
    ·intro w'
     go_simp
     with_reducible rfl
    rotate_left
    ·simp only [Act.put, la_, lz_, ls_, i64_w, i32_w]
     rfl
    refine take_ (i := 9) (N := some 49) (v := ?_) (a' := ?_) #[T_, T_, T_, T_, T_, T_, T_, T_, T_, T_, F_, F_, F_, F_, F_, F_, F_, F_, F_, F_, F_, F_, F_, F_, F_, F_, F_, F_, F_] rfl rfl (take_ofW HT_.out HW_.out (by kernel_rfl)) (fun _ _ _ h => h) (Or.inl ⟨by rfl, ?_⟩) hHeld ?_ ?_
    rotate_left
    ·rintro w' ⟨s3320, s3321, s25240, s25241, s25242⟩
     go_simp
     with_reducible rfl
    rotate_left
    ·simp only [Act.put, la_, lz_, ls_, i64_w, i32_w]
     rfl
    refine pure_ (i := 10) (N := some 50) (v := ?_) (a' := ?_) #[T_, T_, T_, T_, T_, T_, T_, T_, T_, T_, T_, F_, F_, F_, F_, F_, F_, F_, F_, F_, F_, F_, F_, F_, F_, F_, F_, F_, F_] rfl rfl (any_of HT_.out (by kernel_rfl)) (fun _ _ _ h => h) (Or.inl ⟨by rfl, ?_⟩) ?_ ?_
    rotate_left
    ·intro w'
     go_simp
     with_reducible rfl
    rotate_left
    ·simp only [Act.put, la_, lz_, ls_, i64_w, i32_w]
     rfl
    refine pure_ (i := 11) (N := some 51) (v := ?_) (a' := ?_) #[T_, T_, T_, T_, T_, T_, T_, T_, T_, T_, T_, T_, F_, F_, F_, F_, F_, F_, F_, F_, F_, F_, F_, F_, F_, F_, F_, F_, F_] rfl rfl (any_of HT_.out (by kernel_rfl)) (fun _ _ _ h => h) (Or.inl ⟨by rfl, ?_⟩) ?_ ?_
    rotate_left
    ·intro w'
     go_simp
     with_reducible rfl
    rotate_left
    ·simp only [Act.put, la_, lz_, ls_, i64_w, i32_w]
     rfl
    refine pure_ (i := 12) (N := some 52) (v := ?_) (a' := ?_) #[T_, T_, T_, T_, T_, T_, T_, T_, T_, T_, T_, T_, T_, F_, F_, F_, F_, F_, F_, F_, F_, F_, F_, F_, F_, F_, F_, F_, F_] rfl rfl (any_of HT_.out (by kernel_rfl)) (fun _ _ _ h => h) (Or.inl ⟨by rfl, ?_⟩) ?_ ?_
    rotate_left
    ·intro w'
     go_simp
     with_reducible rfl
    rotate_left
    ·simp only [Act.put, la_, lz_, ls_, i64_w, i32_w]
     rfl
    refine pure_ (i := 13) (N := some 53) (v := ?_) (a' := ?_) #[T_, T_, T_, T_, T_, T_, T_, T_, T_, T_, T_, T_, T_, T_, F_, F_, F_, F_, F_, F_, F_, F_, F_, F_, F_, F_, F_, F_, F_] rfl rfl (any_of HT_.out (by kernel_rfl)) (fun _ _ _ h => h) (Or.inl ⟨by rfl, ?_⟩) ?_ ?_
    rotate_left
    ·intro w'
     go_simp
     with_reducible rfl
    rotate_left
    ·simp only [Act.put, la_, lz_, ls_, i64_w, i32_w]
     rfl
    refine pure_ (i := 14) (N := some 54) (v := ?_) (a' := ?_) #[T_, T_, T_, T_, T_, T_, T_, T_, T_, T_, T_, T_, T_, T_, T_, F_, F_, F_, F_, F_, F_, F_, F_, F_, F_, F_, F_, F_, F_] rfl rfl (any_of HT_.out (by kernel_rfl)) (fun _ _ _ h => h) (Or.inl ⟨by rfl, ?_⟩) ?_ ?_
    rotate_left
    ·intro w'
     go_simp
     with_reducible rfl
    rotate_left
    ·simp only [Act.put, la_, lz_, ls_, i64_w, i32_w]
     rfl
    refine pure_ (i := 15) (N := some 55) (v := ?_) (a' := ?_) #[T_, T_, T_, T_, T_, T_, T_, T_, T_, T_, T_, T_, T_, T_, T_, T_, F_, F_, F_, F_, F_, F_, F_, F_, F_, F_, F_, F_, F_] rfl rfl (any_of HT_.out (by kernel_rfl)) (fun _ _ _ h => h) (Or.inl ⟨by rfl, ?_⟩) ?_ ?_
    rotate_left
    ·intro w'
     go_simp
     with_reducible rfl
    rotate_left
    ·simp only [Act.put, la_, lz_, ls_, i64_w, i32_w]
     rfl
    refine pure_ (i := 16) (N := some 56) (v := ?_) (a' := ?_) #[T_, T_, T_, T_, T_, T_, T_, T_, T_, T_, T_, T_, T_, T_, T_, T_, T_, F_, F_, F_, F_, F_, F_, F_, F_, F_, F_, F_, F_] rfl rfl (any_of HT_.out (by kernel_rfl)) (fun _ _ _ h => h) (Or.inl ⟨by rfl, ?_⟩) ?_ ?_
    rotate_left
    ·intro w'
     go_simp
     with_reducible rfl
    rotate_left
    ·simp only [Act.put, la_, lz_, ls_, i64_w, i32_w]
     rfl
    refine pure_ (i := 17) (N := some 57) (v := ?_) (a' := ?_) #[T_, T_, T_, T_, T_, T_, T_, T_, T_, T_, T_, T_, T_, T_, T_, T_, T_, T_, F_, F_, F_, F_, F_, F_, F_, F_, F_, F_, F_] rfl rfl (any_of HT_.out (by kernel_rfl)) (fun _ _ _ h => h) (Or.inl ⟨by rfl, ?_⟩) ?_ ?_
    rotate_left
    ·intro w'
     go_simp
     with_reducible rfl
    rotate_left
    ·simp only [Act.put, la_, lz_, ls_, i64_w, i32_w]
     rfl
    refine pure_ (i := 19) (N := some 59) (v := ?_) (a' := ?_) #[T_, T_, T_, T_, T_, T_, T_, T_, T_, T_, T_, T_, T_, T_, T_, T_, T_, T_, F_, T_, F_, F_, F_, F_, F_, F_, F_, F_, F_] rfl rfl (any_of HT_.out (by kernel_rfl)) (fun _ _ _ h => h) (Or.inl ⟨by rfl, ?_⟩) ?_ ?_
    rotate_left
    ·intro w'
     go_simp
     with_reducible rfl
    rotate_left
    ·simp only [Act.put, la_, lz_, ls_, i64_w, i32_w]
     rfl
    refine pure_ (i := 20) (N := some 60) (v := ?_) (a' := ?_) #[T_, T_, T_, T_, T_, T_, T_, T_, T_, T_, T_, T_, T_, T_, T_, T_, T_, T_, F_, T_, T_, F_, F_, F_, F_, F_, F_, F_, F_] rfl rfl (any_of HT_.out (by kernel_rfl)) (fun _ _ _ h => h) (Or.inl ⟨by rfl, ?_⟩) ?_ ?_
    rotate_left
    ·intro w'
     go_simp
     with_reducible rfl
    rotate_left
    ·simp only [Act.put, la_, lz_, ls_, i64_w, i32_w]
     rfl
    refine pure_ (i := 21) (N := some 61) (v := ?_) (a' := ?_) #[T_, T_, T_, T_, T_, T_, T_, T_, T_, T_, T_, T_, T_, T_, T_, T_, T_, T_, F_, T_, T_, T_, F_, F_, F_, F_, F_, F_, F_] rfl rfl (any_of HT_.out (by kernel_rfl)) (fun _ _ _ h => h) (Or.inl ⟨by rfl, ?_⟩) ?_ ?_
    rotate_left
    ·intro w'
     go_simp
     with_reducible rfl
    rotate_left
    ·simp only [Act.put, la_, lz_, ls_, i64_w, i32_w]
     rfl
    refine pure_ (i := 22) (N := some 62) (v := ?_) (a' := ?_) #[T_, T_, T_, T_, T_, T_, T_, T_, T_, T_, T_, T_, T_, T_, T_, T_, T_, T_, F_, T_, T_, T_, T_, F_, F_, F_, F_, F_, F_] rfl rfl (any_of HT_.out (by kernel_rfl)) (fun _ _ _ h => h) (Or.inl ⟨by rfl, ?_⟩) ?_ ?_
    rotate_left
    ·intro w'
     go_simp
     with_reducible rfl
    rotate_left
    ·simp only [Act.put, la_, lz_, ls_, i64_w, i32_w]
     rfl
    refine pure_ (i := 23) (N := some 63) (v := ?_) (a' := ?_) #[T_, T_, T_, T_, T_, T_, T_, T_, T_, T_, T_, T_, T_, T_, T_, T_, T_, T_, F_, T_, T_, T_, T_, T_, F_, F_, F_, F_, F_] rfl rfl (any_of HT_.out (by kernel_rfl)) (fun _ _ _ h => h) (Or.inl ⟨by rfl, ?_⟩) ?_ ?_
    rotate_left
    ·intro w'
     go_simp
     with_reducible rfl
    rotate_left
    ·simp only [Act.put, la_, lz_, ls_, i64_w, i32_w]
     rfl
    refine pure_ (i := 24) (N := some 64) (v := ?_) (a' := ?_) #[T_, T_, T_, T_, T_, T_, T_, T_, T_, T_, T_, T_, T_, T_, T_, T_, T_, T_, F_, T_, T_, T_, T_, T_, T_, F_, F_, F_, F_] rfl rfl (any_of HT_.out (by kernel_rfl)) (fun _ _ _ h => h) (Or.inl ⟨by rfl, ?_⟩) ?_ ?_
    rotate_left
    ·intro w'
     go_simp
     with_reducible rfl
    rotate_left
    ·simp only [Act.put, la_, lz_, ls_, i64_w, i32_w]
     rfl
    refine pure_ (i := 25) (N := some 65) (v := ?_) (a' := ?_) #[T_, T_, T_, T_, T_, T_, T_, T_, T_, T_, T_, T_, T_, T_, T_, T_, T_, T_, F_, T_, T_, T_, T_, T_, T_, T_, F_, F_, F_] rfl rfl (any_of HT_.out (by kernel_rfl)) (fun _ _ _ h => h) (Or.inl ⟨by rfl, ?_⟩) ?_ ?_
    rotate_left
    ·intro w'
     go_simp
     with_reducible rfl
    rotate_left
    ·simp only [Act.put, la_, lz_, ls_, i64_w, i32_w]
     rfl
    refine one_ (i := 18) (N := some 58) #[T_, T_, T_, T_, T_, T_, T_, T_, T_, T_, T_, T_, T_, T_, T_, T_, T_, T_, T_, T_, T_, T_, T_, T_, T_, T_, F_, F_, F_] rfl rfl (one_of HT_.out (by kernel_rfl)) (by decide) (fun K hK => ?_)
    refine goes_ Try.func89 (by kernel_rfl) rfl #[.slice (some ad19240) l2.length c2, .int .i64 ji22, .int .i64 2] (by rfl) rfl rfl (by (try simp only [List.map_toArray, List.map_cons, List.map_nil]); first | done | (simp only [hji22]; rfl) | rfl | (simp only [List.length_drop, List.length_take]; rfl)) ?_
    with_reducible refine (spec_NumberAt.calls kj3 _ _ l2 ji22 2 t225 _ ?side1 ?side2 A21.out).mono ?_
    (case side1 => repeat (first | exact (Kd.C_below HR2.out HB.out) | (with_reducible refine Kd.C_alloc ?_ _) | (with_reducible refine Kd.C_drewN ?_ _) | (with_reducible refine Kd.C_drew ?_)))
    (case side2 => exact HC2.out)
    rintro e w' ⟨rfl, ⟨nd, rfl⟩⟩
    refine ⟨_, rfl, ?_⟩
    refine hK.out _ _ ⟨(blk_cell BK222.out 0).trans rfl, (blk_cell BK222.out 1).trans rfl, (blk_cell BK222.out 2).trans rfl, (blk_cell BK222.out 3).trans rfl, ((HB.out.cell (lc_ w _ hw224_0)).trans hw224_0)⟩ (fun hHeld => ?_)
    clear hK K
    refine norm_ (a' := ?_) ?_ ?_
    rotate_left
    ·show Act.put _ (some 58) _ = _
     simp only [Act.put, la_, lz_, ls_, i64_w, i32_w]
     rfl
    refine one_ (i := 26) (N := some 66) #[T_, T_, T_, T_, T_, T_, T_, T_, T_, T_, T_, T_, T_, T_, T_, T_, T_, T_, T_, T_, T_, T_, T_, T_, T_, T_, T_, F_, F_] rfl rfl (one_of HT_.out (by kernel_rfl)) (by decide) (fun K hK => ?_)
    refine goes_ Try.func90 (by kernel_rfl) rfl #[.int .i64 a0, .int .i64 a1, .slice (some ad19240) (l2.take ((ji22) : Int).toNat).length c2] (by rfl) rfl rfl (by (try simp only [List.map_toArray, List.map_cons, List.map_nil]); first | done | (rw [show (l2.take ((ji22) : Int).toNat).length = (ji22).toNat from (by rw [List.length_take]; have h_ : ((ji22) : Int) ≤ (l2.length : Int) := of_decide_eq_true (by first | (with_reducible assumption) | assumption); omega)] <;> rfl) | (simp only [hji22]; rfl) | rfl | (simp only [List.length_drop, List.length_take]; rfl)) ?_
    with_reducible refine (spec_l9Sum.calls kj3 a0 a1 _ _ (l2.take ((ji22) : Int).toNat) t227 _ ?side1 ?side2 A25.out).mono ?_
    (case side1 => repeat (first | exact (Kd.C_below HR25960.out (us_ HB.out)) | (with_reducible refine Kd.C_alloc ?_ _) | (with_reducible refine Kd.C_drewN ?_ _) | (with_reducible refine Kd.C_drew ?_)))
    (case side2 => exact HC25960.out)
    rintro e w27120 ⟨rfl, hb⟩
    refine ⟨_, rfl, ?_⟩
    have n0_ := mk_ (Kd.R_below (Kd.ur_ HO221.out) hb)
    have n1_ := mk_ (blk_below (u_ BK210.out) hb)
    have n2_ := mk_ (blk_below (u_ BK222.out) hb)
    have n3_ := mk_ (below_step (us_ HB.out) hb)
    clear HO221
    clear BK210
    clear BK222
    clear HB
    have HO221 := n0_
    have BK210 := n1_
    have BK222 := n2_
    have HB := n3_
    clear n0_ n1_ n2_ n3_
    (try clear hb)
    (try clear hb2)
    (try clear hk)
    (try clear hi)
    refine hK.out _ _ ⟨(blk_cell BK222.out 0).trans rfl, (blk_cell BK222.out 1).trans rfl, (blk_cell BK222.out 2).trans rfl, (blk_cell BK222.out 3).trans rfl, ((HB.out.cell (lc_ w _ hw224_0)).trans hw224_0)⟩ (fun hHeld => ?_)
    clear hK K
    refine norm_ (a' := ?_) ?_ ?_
    rotate_left
    ·show Act.put _ (some 66) _ = _
     simp only [Act.put, la_, lz_, ls_, i64_w, i32_w]
     rfl
    refine pure_ (i := 27) (N := some 67) (v := ?_) (a' := ?_) #[T_, T_, T_, T_, T_, T_, T_, T_, T_, T_, T_, T_, T_, T_, T_, T_, T_, T_, T_, T_, T_, T_, T_, T_, T_, T_, T_, T_, F_] rfl rfl (any_of HT_.out (by kernel_rfl)) (fun _ _ _ h => h) (Or.inl ⟨by rfl, ?_⟩) ?_ ?_
    rotate_left
    ·intro w'
     go_simp
     with_reducible rfl
    rotate_left
    ·simp only [Act.put, la_, lz_, ls_, i64_w, i32_w]
     rfl
    refine pure_ (i := 28) (N := some 68) (v := ?_) (a' := ?_) #[T_, T_, T_, T_, T_, T_, T_, T_, T_, T_, T_, T_, T_, T_, T_, T_, T_, T_, T_, T_, T_, T_, T_, T_, T_, T_, T_, T_, T_] rfl rfl (any_of HT_.out (by kernel_rfl)) (fun _ _ _ h => h) (Or.inl ⟨by rfl, ?_⟩) ?_ ?_
    rotate_left
    ·intro w'
     go_simp
     with_reducible rfl
    rotate_left
    ·simp only [Act.put, la_, lz_, ls_, i64_w, i32_w]
     rfl
    refine done_ (done_of HT_.out (by kernel_rfl)) ?_
   ·have hnb5920210222 := NB210_222.out
    have hnc5920210222 := NB222_210.out
    obtain ⟨_, _, _, _, _, _, _, _⟩ := cells4_ BK210.out
    try go_wp2
    refine bodyPost_ret (results_ct rfl _ _ gb210 40 #[.int .i64 0, .int .i64 0, .int .i64 0, .slice none 0 0] (0, 0) _ rfl (by (with_reducible repeat (first | refine bn_ ?_ _ | refine bw_ ?_ | refine ba_ ?_ _)); refine blk_put (cs := #[.int .i64 0, .int .i64 0, .int .i64 0, .slice none 0 0]) ?_ 3 _ rfl; (with_reducible repeat (first | refine bn_ ?_ _ | refine bw_ ?_ | refine ba_ ?_ _)); refine blk_put (cs := #[.int .i64 0, .int .i64 0, .int .i64 0, .slice none 0 0]) ?_ 2 _ rfl; (with_reducible repeat (first | refine bn_ ?_ _ | refine bw_ ?_ | refine ba_ ?_ _)); refine blk_put (cs := #[.int .i64 0, .int .i64 0, .int .i64 0, .slice none 0 0]) ?_ 1 _ rfl; (with_reducible repeat (first | refine bn_ ?_ _ | refine bw_ ?_ | refine ba_ ?_ _)); refine blk_put (cs := #[.int .i64 0, .int .i64 0, .int .i64 0, .slice none 0 0]) ?_ 0 _ rfl; (with_reducible repeat (first | refine bn_ ?_ _ | refine bw_ ?_ | refine ba_ ?_ _)); exact BK210.out) Try.underlying40 rfl (by kernel_rfl)) rfl ?_
    exact ⟨_, by first | rfl | (simp [errW_none, errW_some] <;> rfl) | (simp only [← hji22]; first | rfl | (simp [errW_none, errW_some] <;> rfl)) | (simp [*, errW_none, errW_some] <;> rfl), by first | exact Kd.R_nil _ _ _ _ _ | exact Kd.N_nil _ _ _ _ _ | exact Kd.V_nil _ _ _ _ _ | exact Kd.Q_nil _ _ _ _ _ | exact Kd.S_nil _ _ _ _ _, us_ HB.out⟩
   ·have hnb5920210222 := NB222_210.out
    have hnc5920210222 := NB210_222.out
    obtain ⟨_, _, _, _, _, _, _, _⟩ := cells4_ BK222.out
    obtain ⟨_, _, _, _, _, _, _, _⟩ := cells4_ BK210.out
    try go_wp2
    refine bodyPost_ret (results_ct rfl _ _ gb210 40 #[.int .i64 a0, .int .i64 (wrap64 (rd l2 0)), .int .i64 (wrap64 (rd l2 1)), .slice Ao5040221 y219.length co5040221] (0, 0) _ rfl (by (with_reducible repeat (first | refine bn_ ?_ _ | refine bw_ ?_ | refine ba_ ?_ _)); refine blk_put (cs := #[.int .i64 a0, .int .i64 (wrap64 (rd l2 0)), .int .i64 (wrap64 (rd l2 1)), .slice none 0 0]) ?_ 3 _ rfl; (with_reducible repeat (first | refine bn_ ?_ _ | refine bw_ ?_ | refine ba_ ?_ _)); refine blk_put (cs := #[.int .i64 a0, .int .i64 (wrap64 (rd l2 0)), .int .i64 0, .slice none 0 0]) ?_ 2 _ rfl; (with_reducible repeat (first | refine bn_ ?_ _ | refine bw_ ?_ | refine ba_ ?_ _)); refine blk_put (cs := #[.int .i64 a0, .int .i64 0, .int .i64 0, .slice none 0 0]) ?_ 1 _ rfl; (with_reducible repeat (first | refine bn_ ?_ _ | refine bw_ ?_ | refine ba_ ?_ _)); refine blk_put (cs := #[.int .i64 0, .int .i64 0, .int .i64 0, .slice none 0 0]) ?_ 0 _ rfl; (with_reducible repeat (first | refine bn_ ?_ _ | refine bw_ ?_ | refine ba_ ?_ _)); exact BK210.out) Try.underlying40 rfl (by kernel_rfl)) rfl ?_
    exact ⟨_, by first | rfl | (simp [errW_none, errW_some] <;> rfl) | (simp only [← hji22]; first | rfl | (simp [errW_none, errW_some] <;> rfl)) | (simp [*, errW_none, errW_some] <;> rfl), by (with_reducible repeat (first | apply Kd.R_alloc | apply Kd.R_drewN | apply Kd.R_drew)); exact Kd.R_mono (Kd.R_far (p := ⟨gb210, 3, none⟩) (Kd.R_far (p := ⟨gb210, 2, none⟩) (Kd.R_far (p := ⟨gb210, 1, none⟩) (Kd.R_far (p := ⟨gb210, 0, none⟩) (Kd.R_types HO221.out BK210.out (by decide)) (fun _ hk => hk.2) (.int .i64 a0)) (fun _ hk => hk.2) (.int .i64 (wrap64 (rd l2 0)))) (fun _ hk => hk.2) (.int .i64 (wrap64 (rd l2 1)))) (fun _ hk => hk.2) (.slice Ao5040221 y219.length co5040221)) (fun _ hk => trivial), us_ HB.out⟩

end Go.Proofs.Ytkkibccnpkbbjaa.MFnPortsOk
