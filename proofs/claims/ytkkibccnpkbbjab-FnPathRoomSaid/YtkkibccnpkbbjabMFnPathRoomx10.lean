/- Functions that the law FnPathRoom reaches, each with the proof that the machine's call comes to just its answer; no conditions but those that each theorem states. Printed by a program of this session over the kit's print. -/
import Derived.Test.YtkkibccnpkbbjabMFnPathRoomx0
import Derived.Test.YtkkibccnpkbbjabMFnPathRoomx1
import Derived.Test.YtkkibccnpkbbjabMFnPathRoomx5
import Derived.Test.YtkkibccnpkbbjabMFnPathRoomx6
import Derived.Test.YtkkibccnpkbbjabMFnPathRoomx7
import Derived.Test.YtkkibccnpkbbjabMFnPathRoomx8
import Derived.Test.YtkkibccnpkbbjabMFnPathRoomx9
namespace Go.Proofs.Ytkkibccnpkbbjab.MFnPathRoom
open Go.RowKit Go.Proofs.YtkkibccnpkbbjabV.PrintWords Go.Proofs.YtkkibccnpkbbjabV.PrintLast Go.Proofs.YtkkibccnpkbbjabV.PrintMore
attribute [local go_sem] max2_int min2_int max_two min_two max_three min_three max_four min_four   -- for this text's walks alone
set_option linter.unusedVariables false
set_option linter.unusedSimpArgs false

/-! ### spec_l8At: function 55 -/
def spec_l8At.l0 : Nat → List (S34) → Int → Int → Option (Int)
 | 0, _, _, _ => none
 | k + 1, x0, x1, x5 => if x5 < (x0.length : Int) then (if 0 ≤ x5 then (if ((rd_T34 x0 x5).f0) = x1 then (some x5) else (spec_l8At.l0 k x0 x1 (wrap64 (x5 + 1)))) else (none)) else (some (-1))
def spec_l8At.f (k : Nat) (l0 : List (S34)) (a1 : Int) : Option (Int) := spec_l8At.l0 k l0 a1 0
theorem spec_l8At.mono_l : ∀ k, (∀ y0 y1 y2, LeO (spec_l8At.l0 k y0 y1 y2) (spec_l8At.l0 (k + 1) y0 y1 y2))
 | 0 => fun _ _ _ r h => by simp [spec_l8At.l0] at h
 | k + 1 => by
  have ih0 := spec_l8At.mono_l k
  ·intro y0 y1 y2
   unfold spec_l8At.l0
   repeat' first
   | (with_reducible exact ih0 _ _ _)
   | (with_reducible exact LeO.refl _)
   | (with_reducible exact LeO.none _)
   | (with_reducible refine LeO.ite ?_ ?_)
   | (with_reducible refine LeO.bind ?_ (fun _ => ?_))
   | exact ih0 _ _ _
   | exact LeO.none _
   | refine LeO.ite ?_ ?_
   | refine LeO.bind ?_ (fun _ => ?_)
theorem spec_l8At.mono : ∀ a0 a1 k, LeO (spec_l8At.f k a0 a1) (spec_l8At.f (k + 1) a0 a1) := by
 intro a0 a1 k
 have ih0 := spec_l8At.mono_l k
 unfold spec_l8At.f
 repeat' first
   | (with_reducible exact ih0 _ _ _)
   | (with_reducible exact LeO.refl _)
   | (with_reducible exact LeO.none _)
   | (with_reducible refine LeO.ite ?_ ?_)
   | (with_reducible refine LeO.bind ?_ (fun _ => ?_))
   | exact ih0 _ _ _
   | exact LeO.none _
   | refine LeO.ite ?_ ?_
   | refine LeO.bind ?_ (fun _ => ?_)
set_option maxHeartbeats 8000000 in
set_option maxRecDepth 100000 in
theorem spec_l8At.calls (k : Nat) (A0 : Option Addr) (c0 : Nat) (l0 : List (S34)) (a1 : Int) (r : Int) (w : World) (hr0 : Kd.C k34 w A0 l0.length l0) (hc0 : l0.length ≤ c0) (h : spec_l8At.f k l0 a1 = some r) :
  Calls Try.prog 55 #[.slice A0 l0.length c0, .int .i64 a1] w fun e w' => e = .returned (.int .i64 r) ∧ Drawn0 w w' := by
 have HR0 := mk_ hr0
 have HC0 := mk_ hc0
 clear hr0 hc0
 have H : (spec_l8At.l0 k l0 a1 0) = some r := h
 clear h
 have H' := mk_ H
 clear H
 go_enter Try.func55, Try.ntmps55
 go_wp2
 go_loopg [5] k (fun kq v5 w' => ∃ (x5_1 : Int), v5 = .int .i64 x5_1 ∧ Aside0 (spec_l8At.l0 kq l0 a1 x5_1 = some r) ∧ Aside0 (kq ≤ k) ∧ Drawn0 w w')
 case atStart => exact ⟨(0), (by first | rfl | (simp; done) | (simp [*]; done)), H', ⟨Nat.le_refl _⟩, by repeat (first | exact Drawn0.refl _ | apply Drawn0.step)⟩
 case round =>
  clear H'
  try clear p2
  obtain ⟨x5_1, rfl, HA, HK1, ⟨m1, rfl⟩⟩ := hrel
  cases gk with
  | zero => exact absurd HA.out (by simp [spec_l8At.l0])
  | succ k1 =>
   have H := HA.out
   clear HA
   simp only [spec_l8At.l0] at H
   by_cases c3 : x5_1 < (l0.length : Int)
   rotate_left
   ·rw [if_neg c3] at H
    have c3b0 : decide (x5_1 < (l0.length : Int)) = false := decide_eq_false c3
    clear c3
    obtain rfl := Option.some.inj H
    go_wp2
    go_ret
    exact ⟨by first | rfl | (simp; done) | (simp [*]; done), by repeat (first | exact Drawn0.refl _ | apply Drawn0.step)⟩
   rw [if_pos c3] at H
   have c3b0 : decide (x5_1 < (l0.length : Int)) = true := decide_eq_true c3
   clear c3
   by_cases c4 : 0 ≤ x5_1
   rotate_left
   ·rw [if_neg c4] at H
    exact absurd H (by simp)
   rw [if_pos c4] at H
   have c4b0 : decide (0 ≤ x5_1) = true := decide_eq_true c4
   clear c4
   by_cases c5 : ((rd_T34 l0 x5_1).f0) = a1
   ·rw [if_pos c5] at H
    have c5b0 : (((rd_T34 l0 x5_1).f0) == a1) = true := beq_iff_eq.mpr c5
    have c5b1 : (((rd_T34 l0 x5_1).f0) != a1) = false := bne_eq_false_iff_eq.mpr c5
    clear c5
    obtain rfl := Option.some.inj H
    have p272 : 0 ≤ (x5_1 : Int) := of_decide_eq_true (by first | (with_reducible assumption) | assumption)
    have q272 : x5_1 < (l0.length : Int) := of_decide_eq_true (by first | (with_reducible assumption) | assumption)
    obtain ⟨ad272, A272_1, c272_1, e272, hx272_0, hx272_1, hl272_1, hi272_1⟩ := at_T34 HR0.out x5_1 p272 q272
    cases e272
    have HR272_1 := mk_ hi272_1
    have HC272_1 := mk_ hl272_1
    clear hi272_1 hl272_1
    replace p272 := eq_true p272
    replace q272 := eq_true q272
    go_wp2
    go_ret
    exact ⟨by first | rfl | (simp; done) | (simp [*]; done), by repeat (first | exact Drawn0.refl _ | apply Drawn0.step)⟩
   rw [if_neg c5] at H
   have c5b0 : (((rd_T34 l0 x5_1).f0) == a1) = false := beq_eq_false_iff_ne.mpr c5
   have c5b1 : (((rd_T34 l0 x5_1).f0) != a1) = true := bne_iff_ne.mpr c5
   have H' := mk_ H
   clear H
   have p272 : 0 ≤ (x5_1 : Int) := of_decide_eq_true (by first | (with_reducible assumption) | assumption)
   have q272 : x5_1 < (l0.length : Int) := of_decide_eq_true (by first | (with_reducible assumption) | assumption)
   obtain ⟨ad272, A272_1, c272_1, e272, hx272_0, hx272_1, hl272_1, hi272_1⟩ := at_T34 HR0.out x5_1 p272 q272
   cases e272
   have HR272_1 := mk_ hi272_1
   have HC272_1 := mk_ hl272_1
   clear hi272_1 hl272_1
   replace p272 := eq_true p272
   replace q272 := eq_true q272
   go_wp2
   go_roundg k1
   case measure => have := HK1.out; omega
   case rel => exact ⟨(wrap64 (x5_1 + 1)), (by first | rfl | (simp; done) | (simp [*]; done)), H', ⟨by have := HK1.out; omega⟩, by repeat (first | exact Drawn0.refl _ | apply Drawn0.step)⟩

/-! ### spec_PathRoom: function 12 -/
mutual
def spec_PathRoom.j0 : Nat → List (S34) → Int → Int → Bool → Option (Int)
 | 0, _, _, _, _ => none
 | k + 1, x0, x1, x2, x28 => if x28 = true then (some 0) else (spec_PathRoom.l0 k x0 x2 48 x1 0)
def spec_PathRoom.l0 : Nat → List (S34) → Int → Int → Int → Int → Option (Int)
 | 0, _, _, _, _, _ => none
 | k + 1, x0, x2, x7, x8, x9 => if x9 ≤ (x0.length : Int) then (if 0 ≤ x8 then (if x8 < (x0.length : Int) then (if ((rd_T34 x0 x8).f0) = x2 then (some x7) else ((spec_RouteTo.f k ((rd_T34 x0 x8).f1) x2).bind fun bt278 => ((spec_l8At.f k x0 bt278.2.2.1).bind fun t284 => (if bt278.2.2.2.2 = true then (if t284 < 0 then (some 0) else (spec_PathRoom.l0 k x0 x2 (mn x7 bt278.2.2.2.1) t284 (wrap64 (x9 + 1)))) else (some 0))))) else (none)) else (none)) else (some 0)
end
def spec_PathRoom.f (k : Nat) (l0 : List (S34)) (a1 : Int) (a2 : Int) : Option (Int) := (spec_NetOk.f k l0).bind fun t273 => (if t273 = true then ((spec_l1In.f a1 0 (wrap64 ((l0.length : Int) - 1))).bind fun t274 => (if t274 = true then ((spec_l1In.f a2 0 65535).bind fun t275 => (spec_PathRoom.j0 k l0 a1 a2 (!t275))) else (spec_PathRoom.j0 k l0 a1 a2 true))) else (spec_PathRoom.j0 k l0 a1 a2 true))
theorem spec_PathRoom.mono_l : ∀ k, (∀ y0 y1 y2 y3, LeO (spec_PathRoom.j0 k y0 y1 y2 y3) (spec_PathRoom.j0 (k + 1) y0 y1 y2 y3)) ∧ (∀ y0 y1 y2 y3 y4, LeO (spec_PathRoom.l0 k y0 y1 y2 y3 y4) (spec_PathRoom.l0 (k + 1) y0 y1 y2 y3 y4))
 | 0 => ⟨fun _ _ _ _ r h => by simp [spec_PathRoom.j0] at h, fun _ _ _ _ _ r h => by simp [spec_PathRoom.l0] at h⟩
 | k + 1 => by
  obtain ⟨ih0, ih1⟩ := spec_PathRoom.mono_l k
  refine ⟨?_, ?_⟩
  ·intro y0 y1 y2 y3
   unfold spec_PathRoom.j0
   repeat' first
   | (with_reducible exact ih0 _ _ _ _)
   | (with_reducible exact ih1 _ _ _ _ _)
   | (with_reducible exact spec_NetOk.mono _ _)
   | (with_reducible exact spec_RouteTo.mono _ _ _)
   | (with_reducible exact spec_l8At.mono _ _ _)
   | (with_reducible exact LeO.refl _)
   | (with_reducible exact LeO.none _)
   | (with_reducible refine LeO.ite ?_ ?_)
   | (with_reducible refine LeO.bind ?_ (fun _ => ?_))
   | exact ih0 _ _ _ _
   | exact ih1 _ _ _ _ _
   | exact spec_NetOk.mono _ _
   | exact spec_RouteTo.mono _ _ _
   | exact spec_l8At.mono _ _ _
   | exact LeO.none _
   | refine LeO.ite ?_ ?_
   | refine LeO.bind ?_ (fun _ => ?_)
  ·intro y0 y1 y2 y3 y4
   unfold spec_PathRoom.l0
   repeat' first
   | (with_reducible exact ih0 _ _ _ _)
   | (with_reducible exact ih1 _ _ _ _ _)
   | (with_reducible exact spec_NetOk.mono _ _)
   | (with_reducible exact spec_RouteTo.mono _ _ _)
   | (with_reducible exact spec_l8At.mono _ _ _)
   | (with_reducible exact LeO.refl _)
   | (with_reducible exact LeO.none _)
   | (with_reducible refine LeO.ite ?_ ?_)
   | (with_reducible refine LeO.bind ?_ (fun _ => ?_))
   | exact ih0 _ _ _ _
   | exact ih1 _ _ _ _ _
   | exact spec_NetOk.mono _ _
   | exact spec_RouteTo.mono _ _ _
   | exact spec_l8At.mono _ _ _
   | exact LeO.none _
   | refine LeO.ite ?_ ?_
   | refine LeO.bind ?_ (fun _ => ?_)
theorem spec_PathRoom.mono : ∀ a0 a1 a2 k, LeO (spec_PathRoom.f k a0 a1 a2) (spec_PathRoom.f (k + 1) a0 a1 a2) := by
 intro a0 a1 a2 k
 obtain ⟨ih0, ih1⟩ := spec_PathRoom.mono_l k
 unfold spec_PathRoom.f
 repeat' first
   | (with_reducible exact ih0 _ _ _ _)
   | (with_reducible exact ih1 _ _ _ _ _)
   | (with_reducible exact spec_NetOk.mono _ _)
   | (with_reducible exact spec_RouteTo.mono _ _ _)
   | (with_reducible exact spec_l8At.mono _ _ _)
   | (with_reducible exact LeO.refl _)
   | (with_reducible exact LeO.none _)
   | (with_reducible refine LeO.ite ?_ ?_)
   | (with_reducible refine LeO.bind ?_ (fun _ => ?_))
   | exact ih0 _ _ _ _
   | exact ih1 _ _ _ _ _
   | exact spec_NetOk.mono _ _
   | exact spec_RouteTo.mono _ _ _
   | exact spec_l8At.mono _ _ _
   | exact LeO.none _
   | refine LeO.ite ?_ ?_
   | refine LeO.bind ?_ (fun _ => ?_)
set_option maxHeartbeats 8000000 in
set_option maxRecDepth 100000 in
theorem spec_PathRoom.calls (k : Nat) (A0 : Option Addr) (c0 : Nat) (l0 : List (S34)) (a1 : Int) (a2 : Int) (r : Int) (w : World) (hr0 : Kd.C k34 w A0 l0.length l0) (hc0 : l0.length ≤ c0) (h : spec_PathRoom.f k l0 a1 a2 = some r) :
  Calls Try.prog 12 #[.slice A0 l0.length c0, .int .i64 a1, .int .i64 a2] w fun e w' => e = .returned (.int .i64 r) ∧ Below w.heap.size w w' := by
 have hu29 := Try.underlying29
 have HR0 := mk_ hr0
 have HC0 := mk_ hc0
 clear hr0 hc0
 have HB := mk_ (Below.refl w.heap.size w)
 have H := h
 unfold spec_PathRoom.f at H
 clear h
 have HC4 := mk_ H
 clear H
 go_enter Try.func12, Try.ntmps12
 go_upto_region 1 with (fail)
 go_cut [28] (fun v28 wc => ∃ (kq : Nat) (x28_3 : Bool), v28 = .bool x28_3 ∧ Aside0 (spec_PathRoom.j0 kq l0 a1 a2 x28_3 = some r) ∧ Aside0 (kq ≤ k) ∧ Aside0 (Below w.heap.size w wc))
 case first =>
  have H := HC4.out
  clear HC4
  replace H := Option.bind_eq_some_iff.mp H
  obtain ⟨t273, A50, H⟩ := H
  (try dsimp only at H)
  have A5 := mk_ A50
  clear A50
  by_cases c6 : t273 = true
  rotate_left
  focus
   replace c6 := Bool.eq_false_iff.mpr c6
   subst c6
   have H1 : (spec_PathRoom.j0 k l0 a1 a2 true) = some r := by rw [if_neg (show ¬ (false = true) by decide)] at H; exact H
   clear H
   have H := H1
   clear H1
   have H' := mk_ H
   clear H
  rotate_left
  focus
   subst c6
   rw [if_pos rfl] at H
   replace H := Option.bind_eq_some_iff.mp H
   obtain ⟨t274, A70, H⟩ := H
   (try dsimp only at H)
   have A7 := mk_ A70
   clear A70
   by_cases c8 : t274 = true
   rotate_left
   focus
    replace c8 := Bool.eq_false_iff.mpr c8
    subst c8
    have H1 : (spec_PathRoom.j0 k l0 a1 a2 true) = some r := by rw [if_neg (show ¬ (false = true) by decide)] at H; exact H
    clear H
    have H := H1
    clear H1
    have H' := mk_ H
    clear H
   rotate_left
   focus
    subst c8
    rw [if_pos rfl] at H
    replace H := Option.bind_eq_some_iff.mp H
    obtain ⟨t275, A90, H⟩ := H
    replace H : (spec_PathRoom.j0 k l0 a1 a2 (!t275)) = some r := H
    have A9 := mk_ A90
    clear A90
    have H' := mk_ H
    clear H
   rotate_left
  rotate_left 2
  all_goals
   go_wp2_with (first | ((with_reducible refine gate_callee (f := 52) rfl ?_); refine goesL_ (some 14) rfl rfl Try.func52 (by kernel_rfl) rfl #[.slice A0 l0.length c0] rfl (by (try simp only [lm_, lo_, ln_]); try rfl) ?_; (with_reducible refine (spec_NetOk.calls k _ _ l0 false _ ?side1 ?side2 A5.out).mono ?_); (case side1 => repeat (first | exact (Kd.C_below HR0.out HB.out) | (with_reducible refine Kd.C_alloc ?_ _) | (with_reducible refine Kd.C_drewN ?_ _) | (with_reducible refine Kd.C_drew ?_))); (case side2 => exact HC0.out); rintro e w2000 ⟨rfl, hb⟩; refine ⟨_, rfl, ?_⟩; replace HB := mk_ (below_step (ub_ HB.out) hb)) | ((with_reducible refine gate_callee (f := 52) rfl ?_); refine goesL_ (some 14) rfl rfl Try.func52 (by kernel_rfl) rfl #[.slice A0 l0.length c0] rfl (by (try simp only [lm_, lo_, ln_]); try rfl) ?_; (with_reducible refine (spec_NetOk.calls k _ _ l0 true _ ?side1 ?side2 A5.out).mono ?_); (case side1 => repeat (first | exact (Kd.C_below HR0.out HB.out) | (with_reducible refine Kd.C_alloc ?_ _) | (with_reducible refine Kd.C_drewN ?_ _) | (with_reducible refine Kd.C_drew ?_))); (case side2 => exact HC0.out); rintro e w2000 ⟨rfl, hb⟩; refine ⟨_, rfl, ?_⟩; replace HB := mk_ (below_step (ub_ HB.out) hb)) | (go_at_call 53; (with_reducible refine (spec_l1In.calls a1 0 (wrap64 ((l0.length : Int) - 1)) false _ A7.out).mono ?_); rintro e w' ⟨rfl, ⟨nd, rfl⟩⟩) | (go_at_call 53; have hA_ := A7.out; (with_reducible refine (spec_l1In.calls a1 0 (wrap64 ((l0.length : Int) - 1)) true _ A7.out).mono ?_); rintro e w' ⟨rfl, ⟨nd, rfl⟩⟩; clear hA_ A7) | (go_at_call 53; have hA_ := A9.out; (with_reducible refine (spec_l1In.calls a2 0 65535 t275 _ A9.out).mono ?_); rintro e w' ⟨rfl, ⟨nd, rfl⟩⟩; clear hA_ A9))
   go_meet
  iterate 2
   focus
    case rel => exact ⟨_, (true), (by first | rfl | (simp; done) | (simp [*]; done)), H', ⟨by first | omega | exact Nat.le_refl _⟩, ⟨ub_ HB.out⟩⟩
  ·case rel => exact ⟨_, (!t275), (by first | rfl | (simp; done) | (simp [*]; done)), H', ⟨by first | omega | exact Nat.le_refl _⟩, ⟨ub_ HB.out⟩⟩
 case rest =>
  clear HC4
  try clear c1
  try clear p2
  try clear c5
  try clear c6
  try clear p6
  try clear c8
  try clear c12
  obtain ⟨kq, x28_3, rfl, HA, HJ3, HB⟩ := hcut
  cases kq with
  | zero => exact absurd HA.out (by simp [spec_PathRoom.j0])
  | succ kj3 =>
   have H := HA.out
   clear HA
   simp only [spec_PathRoom.j0] at H
   by_cases c13 : x28_3 = true
   ·subst c13
    have H1 : (some 0) = some r := by rw [if_pos rfl] at H; exact H
    clear H
    have H := H1
    clear H1
    obtain rfl := Option.some.inj H
    go_wp2
    go_ret
    exact ⟨by first | rfl | (simp [errW_none, errW_some] <;> rfl) | (simp [*, errW_none, errW_some] <;> rfl), by repeat (first | (with_reducible first | exact HB.out | apply na_ | apply nn_ | apply nw_) | exact HB.out)⟩
   replace c13 := Bool.eq_false_iff.mpr c13
   subst c13
   have H1 : (spec_PathRoom.l0 kj3 l0 a2 48 a1 0) = some r := by rw [if_neg (show ¬ (false = true) by decide)] at H; exact H
   clear H
   have H := H1
   clear H1
   have H' := mk_ H
   clear H
   go_wp2
   go_loopg [7, 8, 9] kj3 (fun kq v7 v8 v9 w' => ∃ (x7_2 : Int) (x8_2 : Int) (x9_2 : Int), v7 = .int .i64 x7_2 ∧ v8 = .int .i64 x8_2 ∧ v9 = .int .i64 x9_2 ∧ Aside0 (spec_PathRoom.l0 kq l0 a2 x7_2 x8_2 x9_2 = some r) ∧ Aside0 (kq ≤ kj3) ∧ Aside0 (Below w.heap.size w w'))
   case atStart => exact ⟨(48), (a1), (0), (by first | rfl | (simp; done) | (simp [*]; done)), (by first | rfl | (simp; done) | (simp [*]; done)), (by first | rfl | (simp; done) | (simp [*]; done)), H', ⟨Nat.le_refl _⟩, ⟨ub_ HB.out⟩⟩
   case round =>
    clear H'
    try clear c1
    try clear p2
    try clear c5
    try clear c6
    try clear p6
    try clear c8
    try clear c12
    try clear c13
    try clear p2
    try clear p6
    obtain ⟨x7_2, x8_2, x9_2, rfl, rfl, rfl, HA, HK2, HB⟩ := hrel
    cases gk with
    | zero => exact absurd HA.out (by simp [spec_PathRoom.l0])
    | succ k2 =>
     have H := HA.out
     clear HA
     simp only [spec_PathRoom.l0] at H
     by_cases c14 : x9_2 ≤ (l0.length : Int)
     rotate_left
     focus
      rw [if_neg c14] at H
      have c14b0 : decide (x9_2 ≤ (l0.length : Int)) = false := decide_eq_false c14
      clear c14
      obtain rfl := Option.some.inj H
     rotate_left
     focus
      rw [if_pos c14] at H
      have c14b0 : decide (x9_2 ≤ (l0.length : Int)) = true := decide_eq_true c14
      clear c14
      by_cases c15 : 0 ≤ x8_2
      rotate_left
      ·rw [if_neg c15] at H
       exact absurd H (by simp)
      rw [if_pos c15] at H
      have c15b0 : decide (0 ≤ x8_2) = true := decide_eq_true c15
      clear c15
      by_cases c16 : x8_2 < (l0.length : Int)
      rotate_left
      ·rw [if_neg c16] at H
       exact absurd H (by simp)
      rw [if_pos c16] at H
      have c16b0 : decide (x8_2 < (l0.length : Int)) = true := decide_eq_true c16
      clear c16
      by_cases c17 : ((rd_T34 l0 x8_2).f0) = a2
      focus
       rw [if_pos c17] at H
       have c17b0 : (((rd_T34 l0 x8_2).f0) == a2) = true := beq_iff_eq.mpr c17
       have c17b1 : (((rd_T34 l0 x8_2).f0) != a2) = false := bne_eq_false_iff_eq.mpr c17
       clear c17
       obtain rfl := Option.some.inj H
       have p276 : 0 ≤ (x8_2 : Int) := of_decide_eq_true (by first | (with_reducible assumption) | assumption)
       have q276 : x8_2 < (l0.length : Int) := of_decide_eq_true (by first | (with_reducible assumption) | assumption)
       obtain ⟨ad276, A276_1, c276_1, e276, hx276_0, hx276_1, hl276_1, hi276_1⟩ := at_T34 HR0.out x8_2 p276 q276
       cases e276
       replace hx276_0 := (HB.out.cell (lc_ w _ hx276_0)).trans hx276_0
       replace hx276_1 := (HB.out.cell (lc_ w _ hx276_1)).trans hx276_1
       have HR276_1 := mk_ hi276_1
       have HC276_1 := mk_ hl276_1
       clear hi276_1 hl276_1
       replace p276 := eq_true p276
       replace q276 := eq_true q276
      rotate_left
      focus
       rw [if_neg c17] at H
       have c17b0 : (((rd_T34 l0 x8_2).f0) == a2) = false := beq_eq_false_iff_ne.mpr c17
       have c17b1 : (((rd_T34 l0 x8_2).f0) != a2) = true := bne_iff_ne.mpr c17
       replace H := Option.bind_eq_some_iff.mp H
       obtain ⟨⟨t278, t279, t280, t281, t282⟩, A180, H⟩ := H
       (try dsimp only at H)
       have A18 := mk_ A180
       clear A180
       replace H := Option.bind_eq_some_iff.mp H
       obtain ⟨t284, A190, H⟩ := H
       (try dsimp only at H)
       have A19 := mk_ A190
       clear A190
       by_cases c20 : t282 = true
       rotate_left
       focus
        replace c20 := Bool.eq_false_iff.mpr c20
        subst c20
        have H1 : (some 0) = some r := by rw [if_neg (show ¬ (false = true) by decide)] at H; exact H
        clear H
        have H := H1
        clear H1
        obtain rfl := Option.some.inj H
        have p276 : 0 ≤ (x8_2 : Int) := of_decide_eq_true (by first | (with_reducible assumption) | assumption)
        have q276 : x8_2 < (l0.length : Int) := of_decide_eq_true (by first | (with_reducible assumption) | assumption)
        obtain ⟨ad276, A276_1, c276_1, e276, hx276_0, hx276_1, hl276_1, hi276_1⟩ := at_T34 HR0.out x8_2 p276 q276
        cases e276
        replace hx276_0 := (HB.out.cell (lc_ w _ hx276_0)).trans hx276_0
        replace hx276_1 := (HB.out.cell (lc_ w _ hx276_1)).trans hx276_1
        have HR276_1 := mk_ hi276_1
        have HC276_1 := mk_ hl276_1
        clear hi276_1 hl276_1
        replace p276 := eq_true p276
        replace q276 := eq_true q276
        have p277 : 0 ≤ (x8_2 : Int) := of_decide_eq_true (by first | (with_reducible assumption) | assumption)
        have q277 : x8_2 < (l0.length : Int) := of_decide_eq_true (by first | (with_reducible assumption) | assumption)
        obtain ⟨ad277, A277_1, c277_1, e277, hx277_0, hx277_1, hl277_1, hi277_1⟩ := at_T34 HR0.out x8_2 p277 q277
        obtain rfl : ad276 = ad277 := (by injection e277)
        replace hx277_0 := (HB.out.cell (lc_ w _ hx277_0)).trans hx277_0
        replace hx277_1 := (HB.out.cell (lc_ w _ hx277_1)).trans hx277_1
        have HR277_1 := mk_ hi277_1
        have HC277_1 := mk_ hl277_1
        clear hi277_1 hl277_1
        replace p277 := eq_true p277
        replace q277 := eq_true q277
        have ea_ := Option.some.inj (hx276_1.symm.trans hx277_1)
        injection ea_ with ea_ en_ ec_
        subst ea_
        subst ec_
        clear en_
       rotate_left
       focus
        subst c20
        rw [if_pos rfl] at H
        by_cases c21 : t284 < 0
        focus
         rw [if_pos c21] at H
         have c21b0 : decide (t284 < 0) = true := decide_eq_true c21
         clear c21
         obtain rfl := Option.some.inj H
         have p276 : 0 ≤ (x8_2 : Int) := of_decide_eq_true (by first | (with_reducible assumption) | assumption)
         have q276 : x8_2 < (l0.length : Int) := of_decide_eq_true (by first | (with_reducible assumption) | assumption)
         obtain ⟨ad276, A276_1, c276_1, e276, hx276_0, hx276_1, hl276_1, hi276_1⟩ := at_T34 HR0.out x8_2 p276 q276
         cases e276
         replace hx276_0 := (HB.out.cell (lc_ w _ hx276_0)).trans hx276_0
         replace hx276_1 := (HB.out.cell (lc_ w _ hx276_1)).trans hx276_1
         have HR276_1 := mk_ hi276_1
         have HC276_1 := mk_ hl276_1
         clear hi276_1 hl276_1
         replace p276 := eq_true p276
         replace q276 := eq_true q276
         have p277 : 0 ≤ (x8_2 : Int) := of_decide_eq_true (by first | (with_reducible assumption) | assumption)
         have q277 : x8_2 < (l0.length : Int) := of_decide_eq_true (by first | (with_reducible assumption) | assumption)
         obtain ⟨ad277, A277_1, c277_1, e277, hx277_0, hx277_1, hl277_1, hi277_1⟩ := at_T34 HR0.out x8_2 p277 q277
         obtain rfl : ad276 = ad277 := (by injection e277)
         replace hx277_0 := (HB.out.cell (lc_ w _ hx277_0)).trans hx277_0
         replace hx277_1 := (HB.out.cell (lc_ w _ hx277_1)).trans hx277_1
         have HR277_1 := mk_ hi277_1
         have HC277_1 := mk_ hl277_1
         clear hi277_1 hl277_1
         replace p277 := eq_true p277
         replace q277 := eq_true q277
         have ea_ := Option.some.inj (hx276_1.symm.trans hx277_1)
         injection ea_ with ea_ en_ ec_
         subst ea_
         subst ec_
         clear en_
        rotate_left
        focus
         rw [if_neg c21] at H
         have c21b0 : decide (t284 < 0) = false := decide_eq_false c21
         clear c21
         obtain ⟨ji25, hji25⟩ : ∃ j_ : Int, (mn x7_2 t281) = j_ := ⟨_, rfl⟩
         replace H : (spec_PathRoom.l0 k2 l0 a2 ji25 t284 (wrap64 (x9_2 + 1))) = some r := by first | (rw [hji25] at H; exact H) | (simp only [hji25] at H ⊢; exact H)
         (try rw [hji25] at A18)
         (try rw [hji25] at A19)
         have hji25_ : (if t281 < x7_2 then t281 else x7_2) = ji25 := hji25
         have H' := mk_ H
         clear H
         have p276 : 0 ≤ (x8_2 : Int) := of_decide_eq_true (by first | (with_reducible assumption) | assumption)
         have q276 : x8_2 < (l0.length : Int) := of_decide_eq_true (by first | (with_reducible assumption) | assumption)
         obtain ⟨ad276, A276_1, c276_1, e276, hx276_0, hx276_1, hl276_1, hi276_1⟩ := at_T34 HR0.out x8_2 p276 q276
         cases e276
         replace hx276_0 := (HB.out.cell (lc_ w _ hx276_0)).trans hx276_0
         replace hx276_1 := (HB.out.cell (lc_ w _ hx276_1)).trans hx276_1
         have HR276_1 := mk_ hi276_1
         have HC276_1 := mk_ hl276_1
         clear hi276_1 hl276_1
         replace p276 := eq_true p276
         replace q276 := eq_true q276
         have p277 : 0 ≤ (x8_2 : Int) := of_decide_eq_true (by first | (with_reducible assumption) | assumption)
         have q277 : x8_2 < (l0.length : Int) := of_decide_eq_true (by first | (with_reducible assumption) | assumption)
         obtain ⟨ad277, A277_1, c277_1, e277, hx277_0, hx277_1, hl277_1, hi277_1⟩ := at_T34 HR0.out x8_2 p277 q277
         obtain rfl : ad276 = ad277 := (by injection e277)
         replace hx277_0 := (HB.out.cell (lc_ w _ hx277_0)).trans hx277_0
         replace hx277_1 := (HB.out.cell (lc_ w _ hx277_1)).trans hx277_1
         have HR277_1 := mk_ hi277_1
         have HC277_1 := mk_ hl277_1
         clear hi277_1 hl277_1
         replace p277 := eq_true p277
         replace q277 := eq_true q277
         have ea_ := Option.some.inj (hx276_1.symm.trans hx277_1)
         injection ea_ with ea_ en_ ec_
         subst ea_
         subst ec_
         clear en_
        rotate_left
       rotate_left 2
      rotate_left 3
     rotate_left 4
     all_goals
      go_wp2_with (first | ((with_reducible refine gate_callee (f := 54) rfl ?_); refine goesL_ (some 51) rfl rfl Try.func54 (by kernel_rfl) rfl #[.slice A276_1 ((rd_T34 l0 x8_2).f1).length c276_1, .int .i64 a2] rfl (by (try simp only [lm_, lo_, ln_]); try rfl) ?_; (with_reducible refine (spec_RouteTo.calls k2 _ _ ((rd_T34 l0 x8_2).f1) a2 t278 t279 t280 t281 false _ ?side1 ?side2 A18.out).mono ?_); (case side1 => repeat (first | exact (Kd.C_below HR277_1.out HB.out) | (with_reducible refine Kd.C_alloc ?_ _) | (with_reducible refine Kd.C_drewN ?_ _) | (with_reducible refine Kd.C_drew ?_))); (case side2 => exact HC277_1.out); rintro e w2320 ⟨rfl, hb⟩; refine ⟨_, rfl, ?_⟩; replace HB := mk_ (below_step (ub_ HB.out) hb)) | ((with_reducible refine gate_callee (f := 54) rfl ?_); refine goesL_ (some 51) rfl rfl Try.func54 (by kernel_rfl) rfl #[.slice A276_1 ((rd_T34 l0 x8_2).f1).length c276_1, .int .i64 a2] rfl (by (try simp only [lm_, lo_, ln_]); try rfl) ?_; (with_reducible refine (spec_RouteTo.calls k2 _ _ ((rd_T34 l0 x8_2).f1) a2 t278 t279 t280 t281 true _ ?side1 ?side2 A18.out).mono ?_); (case side1 => repeat (first | exact (Kd.C_below HR277_1.out HB.out) | (with_reducible refine Kd.C_alloc ?_ _) | (with_reducible refine Kd.C_drewN ?_ _) | (with_reducible refine Kd.C_drew ?_))); (case side2 => exact HC277_1.out); rintro e w2320 ⟨rfl, hb⟩; refine ⟨_, rfl, ?_⟩; replace HB := mk_ (below_step (ub_ HB.out) hb)) | ((with_reducible refine gate_dst (N := 10) rfl ?_); refine box_event ?hg (N := 10) ?hd (cs := #[.int .i64 0, .int .i64 0, .int .i64 0, .int .i64 0]) (t := 29) ?hr ?_; (case hd => rfl); (case hg => rfl); (case hr => first | (go_simp; done) | (go_simp; rfl)); intro gb2360 hg w2361 hbox hb; have n0_ := mk_ (below_step (ub_ HB.out) hb); have BK283 := mk_ (hbox); have GW283 := mk_ ((by rw [hg]; exact (below_size (ub_ HB.out)) : w.heap.size ≤ gb2360)); have GE283 := ge_ ((by rw [hg]; exact (below_size (ub_ HB.out)) : w.heap.size ≤ gb2360)); replace HB := n0_; clear n0_; clear hb hbox hg; obtain ⟨_, _, _, _, _, _, _, _⟩ := cells4_ BK283.out) | ((with_reducible refine gate_callee (f := 55) rfl ?_); refine goesL_ (some 57) rfl rfl Try.func55 (by kernel_rfl) rfl #[.slice (some ad276) l0.length c0, .int .i64 t280] rfl (by (try simp only [lm_, lo_, ln_]); try rfl) ?_; (with_reducible refine (spec_l8At.calls k2 _ _ l0 t280 t284 _ ?side1 ?side2 A19.out).mono ?_); (case side1 => exact Kd.C_below HR0.out (us_ HB.out)); (case side2 => exact HC0.out); rintro e w' ⟨rfl, ⟨nd, rfl⟩⟩; refine ⟨_, rfl, ?_⟩))
     iterate 4
      focus
       go_ret
      rotate_left
     rotate_right 4
     iterate 2
      focus
       exact ⟨by first | rfl | (simp [errW_none, errW_some] <;> rfl) | (simp [*, errW_none, errW_some] <;> rfl), by repeat (first | (with_reducible first | exact HB.out | apply na_ | apply nn_ | apply nw_) | exact HB.out)⟩
     iterate 2
      focus
       exact ⟨by first | rfl | (simp [errW_none, errW_some] <;> rfl) | (simp [*, errW_none, errW_some] <;> rfl), us_ HB.out⟩
     ·go_roundg k2
      case measure => have := HJ3.out; have := HK2.out; omega
      case rel => exact ⟨(ji25), (t284), (wrap64 (x9_2 + 1)), (by first | rfl | (simp; done) | (simp only [← hji25] <;> (first | rfl | simp)) | (simp [*]; done)), (by first | rfl | (simp; done) | (simp [*]; done)), (by first | rfl | (simp; done) | (simp [*]; done)), H', ⟨by have := HJ3.out; have := HK2.out; omega⟩, ⟨us_ HB.out⟩⟩

/-! ### impl_bytesOf: function 98 -/
def impl_bytesOf.l0 : Nat → Int → List Int → Int → Option (List Int)
 | 0, _, _, _ => none
 | k + 1, x0, x5, x6 => if x6 ≥ 0 then (if 0 ≤ x6 then (if x6 < (x5.length : Int) then (impl_bytesOf.l0 k (x0 / 256) (x5.set (x6 : Int).toNat ((x0) % 256)) (wrap64 (x6 - 1))) else (none)) else (none)) else (some x5)
def impl_bytesOf.f (k : Nat) (a0 : Int) (a1 : Int) : Option (List Int) := if 0 ≤ a1 then (if (a1 : Int).toNat ≤ 281474976710656 then (impl_bytesOf.l0 k a0 (List.replicate (a1 : Int).toNat 0) (wrap64 (a1 - 1))) else (none)) else (none)
theorem impl_bytesOf.mono_l : ∀ k, (∀ y0 y1 y2, LeO (impl_bytesOf.l0 k y0 y1 y2) (impl_bytesOf.l0 (k + 1) y0 y1 y2))
 | 0 => fun _ _ _ r h => by simp [impl_bytesOf.l0] at h
 | k + 1 => by
  have ih0 := impl_bytesOf.mono_l k
  ·intro y0 y1 y2
   unfold impl_bytesOf.l0
   repeat' first
   | (with_reducible exact ih0 _ _ _)
   | (with_reducible exact LeO.refl _)
   | (with_reducible exact LeO.none _)
   | (with_reducible refine LeO.ite ?_ ?_)
   | (with_reducible refine LeO.bind ?_ (fun _ => ?_))
   | exact ih0 _ _ _
   | exact LeO.none _
   | refine LeO.ite ?_ ?_
   | refine LeO.bind ?_ (fun _ => ?_)
theorem impl_bytesOf.mono : ∀ a0 a1 k, LeO (impl_bytesOf.f k a0 a1) (impl_bytesOf.f (k + 1) a0 a1) := by
 intro a0 a1 k
 have ih0 := impl_bytesOf.mono_l k
 unfold impl_bytesOf.f
 repeat' first
   | (with_reducible exact ih0 _ _ _)
   | (with_reducible exact LeO.refl _)
   | (with_reducible exact LeO.none _)
   | (with_reducible refine LeO.ite ?_ ?_)
   | (with_reducible refine LeO.bind ?_ (fun _ => ?_))
   | exact ih0 _ _ _
   | exact LeO.none _
   | refine LeO.ite ?_ ?_
   | refine LeO.bind ?_ (fun _ => ?_)
set_option maxHeartbeats 8000000 in
set_option maxRecDepth 100000 in
theorem impl_bytesOf.calls (k : Nat) (a0 : Int) (a1 : Int) (r : List Int) (w : World) (h : impl_bytesOf.f k a0 a1 = some r) :
  Calls Try.prog 98 #[.int .i64 a0, .int .i64 a1] w fun e w' => ∃ v0_ : Value, e = .returned (v0_) ∧ Kd.R (Kd.int .u8) 5 w' w.heap.size (fun _ => True) v0_ r ∧ Below w.heap.size w w' := by
 have HB := mk_ (Below.refl w.heap.size w)
 have H := h
 unfold impl_bytesOf.f at H
 clear h
 by_cases c3 : 0 ≤ a1
 rotate_left
 ·rw [if_neg c3] at H
  exact absurd H (by simp)
 rw [if_pos c3] at H
 have c3b0 := eq_true c3
 have c3b1 : decide (0 ≤ a1) = true := decide_eq_true c3
 clear c3
 by_cases c4 : (a1 : Int).toNat ≤ 281474976710656
 rotate_left
 ·rw [if_neg c4] at H
  exact absurd H (by simp)
 rw [if_pos c4] at H
 have c4b0 := eq_true c4
 have c4b1 : decide ((a1 : Int).toNat ≤ 281474976710656) = true := decide_eq_true c4
 clear c4
 obtain ⟨y285, hy285⟩ : ∃ y_ : List Int, y_ = (List.replicate (a1 : Int).toNat 0) := ⟨_, rfl⟩
 replace H : (impl_bytesOf.l0 k a0 y285 (wrap64 (a1 - 1))) = some r := by first | (rw [hy285]; with_reducible exact H) | (have H2_ := (Option.bind_some _ _).symm.trans H; rw [hy285]; with_reducible exact H2_) | (have H2_ := (Option.bind_some _ _).symm.trans H; with_reducible exact H2_) | with_reducible exact H | (rw [hy285]; exact H) | exact H
 have Ny285 := mk_ hy285
 clear hy285
 have H' := mk_ H
 clear H
 go_enter Try.func98, Try.ntmps98
 go_wp2_with (first | ((with_reducible refine gate_dst (N := 8) rfl ?_); refine Kd.R_make (Kd.int .u8) _ 5 rfl (N := 8) rfl 22 _ _ rfl a1 rfl rfl Try.underlying22 (.int .u8 0) 1 info5 rfl (by decide) (by omega) 0 (ok := fun _ => True) (okp := fun _ => True) rfl (fun _ hk => hk) trivial (of_decide_eq_true (by first | (with_reducible assumption) | assumption)) (Nat.le_trans (Nat.mul_le_mul_right _ (of_decide_eq_true (by first | (with_reducible assumption) | assumption) : a1.toNat ≤ 281474976710656)) (by omega)) (Below.refl _ _) (Nat.le_refl _) ?_; intro v286 w5 ho6 hb hg_ hnew_; clear hg_ hnew_; (first | rw [← Ny285.out] at ho6 | (simp only [Int.reduceToNat] at ho6; rw [← Ny285.out] at ho6)); have HO287 := mk_ (Kd.R_lower ho6 (below_size (ub_ HB.out))); replace HB := mk_ (below_step (ub_ HB.out) hb); clear hb ho6))
 go_loopg [0, 6] k (fun kq v0 v6 w' => ∃ (x0_1 : Int) (x5_1 : List Int) (x6_1 : Int), v0 = .int .i64 x0_1 ∧ v6 = .int .i64 x6_1 ∧ Aside0 (impl_bytesOf.l0 kq x0_1 x5_1 x6_1 = some r) ∧ Aside0 (kq ≤ k) ∧ Aside0 (Kd.R (Kd.int .u8) 5 w' w.heap.size (fun _ => True) v286 x5_1) ∧ Aside0 (Below w.heap.size w w'))
 case atStart => exact ⟨(a0), (y285), (wrap64 (a1 - 1)), (by first | rfl | (simp; done) | (simp [*]; done)), (by first | rfl | (simp; done) | (simp [*]; done)), H', ⟨Nat.le_refl _⟩, ⟨Kd.ur_ HO287.out⟩, ⟨ub_ HB.out⟩⟩
 case round =>
  clear H'
  try clear p2
  try clear c3
  try clear c3b0
  try clear c3b1
  try clear c4
  try clear c4b0
  try clear c4b1
  try clear p6
  obtain ⟨x0_1, x5_1, x6_1, rfl, rfl, HA, HK1, HO_5, HB⟩ := hrel
  cases gk with
  | zero => exact absurd HA.out (by simp [impl_bytesOf.l0])
  | succ k1 =>
   have H := HA.out
   clear HA
   simp only [impl_bytesOf.l0] at H
   by_cases c7 : x6_1 ≥ 0
   rotate_left
   ·rw [if_neg c7] at H
    have c7b0 : decide (0 ≤ x6_1) = false := decide_eq_false c7
    clear c7
    obtain rfl := Option.some.inj H
    go_wp2
    go_ret
    exact ⟨_, by first | rfl | (simp [errW_none, errW_some] <;> rfl) | (simp [*, errW_none, errW_some] <;> rfl), by (with_reducible repeat (first | apply Kd.R_alloc | apply Kd.R_drewN | apply Kd.R_drew)); exact HO_5.out, by repeat (first | (with_reducible first | exact HB.out | apply na_ | apply nn_ | apply nw_) | exact HB.out)⟩
   rw [if_pos c7] at H
   have c7b0 : decide (0 ≤ x6_1) = true := decide_eq_true c7
   clear c7
   by_cases c8 : 0 ≤ x6_1
   rotate_left
   ·rw [if_neg c8] at H
    exact absurd H (by simp)
   rw [if_pos c8] at H
   have c8b0 : decide (0 ≤ x6_1) = true := decide_eq_true c8
   clear c8
   by_cases c9 : x6_1 < (x5_1.length : Int)
   rotate_left
   ·rw [if_neg c9] at H
    exact absurd H (by simp)
   rw [if_pos c9] at H
   have c9b0 : decide (x6_1 < (x5_1.length : Int)) = true := decide_eq_true c9
   clear c9
   obtain ⟨y288, hy288⟩ : ∃ y_ : List Int, y_ = (x5_1.set (x6_1 : Int).toNat ((x0_1) % 256)) := ⟨_, rfl⟩
   replace H : (impl_bytesOf.l0 k1 (x0_1 / 256) y288 (wrap64 (x6_1 - 1))) = some r := by first | (rw [hy288]; with_reducible exact H) | (have H2_ := (Option.bind_some _ _).symm.trans H; rw [hy288]; with_reducible exact H2_) | (have H2_ := (Option.bind_some _ _).symm.trans H; with_reducible exact H2_) | with_reducible exact H | (rw [hy288]; exact H) | exact H
   have Ny288 := mk_ hy288
   clear hy288
   have H' := mk_ H
   clear H
   have p10 : 0 ≤ (x6_1 : Int) := of_decide_eq_true (by first | (with_reducible assumption) | assumption)
   have q10 : (x6_1 : Int) < ((x5_1.length : Int) : Int) := of_decide_eq_true (by first | (with_reducible assumption) | assumption)
   obtain ⟨go10, co10, eo10, gb10, gl10, cl10, HG10⟩ := Kd.R_form HO_5.out (by omega)
   (first | cases eo10 | (injection eo10 with ea_ en_ ec_; (first | subst ea_ | (injection ea_ with ea_; subst ea_)); subst ec_; clear en_))
   have GB10 := mk_ gb10
   have GG10 := mk_ HG10
   clear gb10 gl10 HG10
   obtain ⟨hx10_0, hf10_0⟩ := Kd.R_celln 0 HO_5.out (x6_1 : Int) p10 q10
   replace p10 := eq_true p10
   replace q10 := eq_true q10
   have HP11 := Kd.R_putg HO_5.out (x6_1 : Int) ((x0_1) % 256)
   go_wp2_with (first | ((with_reducible refine gate_store (t := 5) (p := 19) rfl ?_); refine store_event (t := 5) (p := 19) (v := ?_) (w1 := (wr.setCell ⟨go10, (x6_1 : Int).toNat, none⟩ (.int .u8 ((x0_1) % 256)))) ?hg ?ho ?hn ?hr ?_; (case ho => rfl); (case hg => rfl); (case hn => rfl); (case hr => first | (go_simp; done) | (go_simp; rfl)); intro w12 hw; have hg : wr.grownBy w12 (some go10) := (by rw [hw]; exact HP11.2); have hp_ : Kd.R (Kd.int .u8) 5 w12 w.heap.size (fun _ => True) (.slice (some ⟨go10, 0, none⟩) x5_1.length co10) y288 := (by rw [hw, Ny288.out]; exact HP11.1); clear HP11; replace HO_5 := mk_ (hp_); replace HB := mk_ ((by rw [hw]; exact below_set (HB.out) GB10.out : Below w.heap.size w w12)); clear hg hw hp_))
   go_roundg k1
   case measure => have := HK1.out; omega
   case rel => exact ⟨(x0_1 / 256), (y288), (wrap64 (x6_1 - 1)), (by first | rfl | (simp; done) | (simp [*]; done)), (by first | rfl | (simp; done) | (simp [*]; done)), H', ⟨by have := HK1.out; omega⟩, ⟨Kd.ur_ HO_5.out⟩, ⟨ub_ HB.out⟩⟩

/-! ### impl_BytesOf: function 56 -/
def impl_BytesOf.f (k : Nat) (a0 : Int) (a1 : Int) : Option (List Int) := (impl_in.f a1 1 4).bind fun t289 => (if t289 = true then (if 0 ≤ (wrap64 (8 * a1)) then ((impl_in.f a0 0 (wrap64 ((shl .i64 1 (wrap64 (8 * a1))) - 1))).bind fun t290 => (if t290 = true then ((impl_bytesOf.f k a0 a1).bind fun t291 => (some t291)) else (some ([] : List Int)))) else (none)) else (some ([] : List Int)))
theorem impl_BytesOf.mono : ∀ a0 a1 k, LeO (impl_BytesOf.f k a0 a1) (impl_BytesOf.f (k + 1) a0 a1) := by
 intro a0 a1 k
 unfold impl_BytesOf.f
 repeat' first
   | (with_reducible exact impl_bytesOf.mono _ _ _)
   | (with_reducible exact LeO.refl _)
   | (with_reducible exact LeO.none _)
   | (with_reducible refine LeO.ite ?_ ?_)
   | (with_reducible refine LeO.bind ?_ (fun _ => ?_))
   | exact impl_bytesOf.mono _ _ _
   | exact LeO.none _
   | refine LeO.ite ?_ ?_
   | refine LeO.bind ?_ (fun _ => ?_)
set_option maxHeartbeats 8000000 in
set_option maxRecDepth 100000 in
theorem impl_BytesOf.calls (k : Nat) (a0 : Int) (a1 : Int) (r : List Int) (w : World) (h : impl_BytesOf.f k a0 a1 = some r) :
  Calls Try.prog 56 #[.int .i64 a0, .int .i64 a1] w fun e w' => ∃ v0_ : Value, e = .returned (v0_) ∧ Kd.R (Kd.int .u8) 5 w' w.heap.size (fun _ => True) v0_ r ∧ Below w.heap.size w w' := by
 have HB := mk_ (Below.refl w.heap.size w)
 have H := h
 unfold impl_BytesOf.f at H
 clear h
 replace H := Option.bind_eq_some_iff.mp H
 obtain ⟨t289, A30, H⟩ := H
 (try dsimp only at H)
 have A3 := mk_ A30
 clear A30
 by_cases c4 : t289 = true
 rotate_left
 focus
  replace c4 := Bool.eq_false_iff.mpr c4
  subst c4
  have H1 : (some ([] : List Int)) = some r := by rw [if_neg (show ¬ (false = true) by decide)] at H; exact H
  clear H
  have H := H1
  clear H1
  obtain rfl := Option.some.inj H
 rotate_left
 focus
  subst c4
  rw [if_pos rfl] at H
  obtain ⟨ji5, hji5⟩ : ∃ j_ : Int, (wrap64 (8 * a1)) = j_ := ⟨_, rfl⟩
  replace H : (if 0 ≤ (ji5) then ((impl_in.f a0 0 (wrap64 ((shl .i64 1 (ji5)) - 1))).bind fun t290 => (if t290 = true then ((impl_bytesOf.f k a0 a1).bind fun t291 => (some t291)) else (some ([] : List Int)))) else (none)) = some r := by first | (rw [hji5] at H; exact H) | (simp only [hji5] at H ⊢; exact H)
  (try rw [hji5] at A3)
  have hji5w : (IntKind.i64.wrap (8 * a1)) = ji5 := (i64_w _).trans hji5
  by_cases c6 : 0 ≤ (ji5)
  rotate_left
  ·rw [if_neg c6] at H
   exact absurd H (by simp)
  rw [if_pos c6] at H
  have c6b0 := eq_true c6
  have c6b1 : decide (0 ≤ (ji5)) = true := decide_eq_true c6
  clear c6
  obtain ⟨ji7, hji7⟩ : ∃ j_ : Int, (shl .i64 1 (ji5)) = j_ := ⟨_, rfl⟩
  replace H : ((impl_in.f a0 0 (wrap64 ((ji7) - 1))).bind fun t290 => (if t290 = true then ((impl_bytesOf.f k a0 a1).bind fun t291 => (some t291)) else (some ([] : List Int)))) = some r := by first | (rw [hji7] at H; exact H) | (simp only [hji7] at H ⊢; exact H)
  (try rw [hji7] at A3)
  have hji7_ : (IntKind.i64.wrap (1 * 2 ^ min (ji5).toNat 64)) = ji7 := hji7
  have hji7z : (ji5) ≤ 64 → (IntKind.i64.wrap (1 * 2 ^ (ji5).toNat)) = ji7 := shl_small hji7
  have hji7u : (IntKind.i64.wrap (2 ^ min (ji5).toNat 64)) = ji7 := by have h_ := hji7_; rw [Int.one_mul] at h_; exact h_
  have hji7v : (ji5) ≤ 64 → (IntKind.i64.wrap (2 ^ (ji5).toNat)) = ji7 := fun hle_ => by have h_ := hji7z hle_; rw [Int.one_mul] at h_; exact h_
  have hji7y : (wrap64 (1 * 2 ^ min (ji5).toNat 64)) = ji7 := (i64_w _).symm.trans hji7_
  have hji7x : (ji5) ≤ 64 → (wrap64 (1 * 2 ^ (ji5).toNat)) = ji7 := fun h_ => (i64_w _).symm.trans (hji7z h_)
  replace H := Option.bind_eq_some_iff.mp H
  obtain ⟨t290, A80, H⟩ := H
  (try dsimp only at H)
  have A8 := mk_ A80
  clear A80
  by_cases c9 : t290 = true
  rotate_left
  focus
   replace c9 := Bool.eq_false_iff.mpr c9
   subst c9
   have H1 : (some ([] : List Int)) = some r := by rw [if_neg (show ¬ (false = true) by decide)] at H; exact H
   clear H
   have H := H1
   clear H1
   obtain rfl := Option.some.inj H
  rotate_left
  focus
   subst c9
   rw [if_pos rfl] at H
   replace H := Option.bind_eq_some_iff.mp H
   obtain ⟨t291, A100, H⟩ := H
   replace H : (some t291) = some r := H
   have A10 := mk_ A100
   clear A100
   obtain rfl := Option.some.inj H
  rotate_left
 rotate_left 2
 all_goals
  go_enter Try.func56, Try.ntmps56
  go_wp2_with (first | ((with_reducible refine gate_callee (f := 48) rfl ?_); refine goesL_ (some 6) rfl rfl Try.func48 (by kernel_rfl) rfl #[.int .i64 a1, .int .i64 1, .int .i64 4] rfl (by (try simp only [lm_, lo_, ln_]); try rfl) ?_; (with_reducible refine (impl_in.calls a1 1 4 false _ A3.out).mono ?_); rintro e w' ⟨rfl, ⟨nd, rfl⟩⟩; refine ⟨_, rfl, ?_⟩) | ((with_reducible refine gate_callee (f := 48) rfl ?_); have hA_ := A3.out; refine goesL_ (some 6) rfl rfl Try.func48 (by kernel_rfl) rfl #[.int .i64 a1, .int .i64 1, .int .i64 4] rfl (by (try simp only [lm_, lo_, ln_]); try rfl) ?_; (with_reducible refine (impl_in.calls a1 1 4 true _ A3.out).mono ?_); rintro e w' ⟨rfl, ⟨nd, rfl⟩⟩; refine ⟨_, rfl, ?_⟩; clear hA_ A3) | (go_at_call 48; have hA_ := A8.out; (with_reducible refine (impl_in.calls a0 0 (wrap64 ((ji7) - 1)) false _ A8.out).mono ?_); rintro e w' ⟨rfl, ⟨nd, rfl⟩⟩; clear hA_ A8) | (go_at_call 48; have hA_ := A8.out; (with_reducible refine (impl_in.calls a0 0 (wrap64 ((ji7) - 1)) true _ A8.out).mono ?_); rintro e w' ⟨rfl, ⟨nd, rfl⟩⟩; clear hA_ A8) | ((with_reducible refine gate_callee (f := 98) rfl ?_); refine goesL_ (some 19) rfl rfl Try.func98 (by kernel_rfl) rfl #[.int .i64 a0, .int .i64 a1] rfl (by (try simp only [lm_, lo_, ln_]); try rfl) ?_; (with_reducible refine (impl_bytesOf.calls k a0 a1 t291 _ A10.out).mono ?_); rintro e w2800 ⟨v2801, rfl, ho2802, hb⟩; refine ⟨_, rfl, ?_⟩; have HO293 := mk_ (Kd.R_lower ho2802 (below_size (ub_ HB.out))); replace HB := mk_ (below_step (ub_ HB.out) hb)))
  go_ret
 ·exact ⟨_, by first | rfl | (simp [errW_none, errW_some] <;> rfl) | (simp [*, errW_none, errW_some] <;> rfl), by first | exact Kd.R_nil _ _ _ _ _ | exact Kd.N_nil _ _ _ _ _ | exact Kd.V_nil _ _ _ _ _ | exact Kd.Q_nil _ _ _ _ _ | exact Kd.S_nil _ _ _ _ _, by repeat (first | (with_reducible first | exact HB.out | apply na_ | apply nn_ | apply nw_) | exact HB.out)⟩
 ·exact ⟨_, by first | rfl | (simp [errW_none, errW_some] <;> rfl) | (simp only [← hji5, ← hji7]; first | rfl | (simp [errW_none, errW_some] <;> rfl)) | (simp [*, errW_none, errW_some] <;> rfl), by first | exact Kd.R_nil _ _ _ _ _ | exact Kd.N_nil _ _ _ _ _ | exact Kd.V_nil _ _ _ _ _ | exact Kd.Q_nil _ _ _ _ _ | exact Kd.S_nil _ _ _ _ _, by repeat (first | (with_reducible first | exact HB.out | apply na_ | apply nn_ | apply nw_) | exact HB.out)⟩
 ·exact ⟨_, by first | rfl | (simp [errW_none, errW_some] <;> rfl) | (simp only [← hji5, ← hji7]; first | rfl | (simp [errW_none, errW_some] <;> rfl)) | (simp [*, errW_none, errW_some] <;> rfl), by (with_reducible repeat (first | apply Kd.R_alloc | apply Kd.R_drewN | apply Kd.R_drew)); exact HO293.out, by repeat (first | (with_reducible first | exact HB.out | apply na_ | apply nn_ | apply nw_) | exact HB.out)⟩

/-! ### laws_alive: function 13 -/
def laws_alive.f (k : Nat)  : Option (Bool) := (impl_BytesOf.f k 5 1).bind fun t294 => (if (t294.length : Int) = 1 then ((impl_BytesOf.f k 256 1).bind fun t297 => (some ((t297.length : Int) == 0))) else (some false))
theorem laws_alive.mono : ∀ k, LeO (laws_alive.f k ) (laws_alive.f (k + 1) ) := by
 intro  k
 unfold laws_alive.f
 repeat' first
   | (with_reducible exact impl_BytesOf.mono _ _ _)
   | (with_reducible exact LeO.refl _)
   | (with_reducible exact LeO.none _)
   | (with_reducible refine LeO.ite ?_ ?_)
   | (with_reducible refine LeO.bind ?_ (fun _ => ?_))
   | exact impl_BytesOf.mono _ _ _
   | exact LeO.none _
   | refine LeO.ite ?_ ?_
   | refine LeO.bind ?_ (fun _ => ?_)
set_option maxHeartbeats 8000000 in
set_option maxRecDepth 100000 in
theorem laws_alive.calls (k : Nat)  (r : Bool) (w : World) (h : laws_alive.f k  = some r) :
  Calls Try.prog 13 #[] w fun e w' => e = .returned (.bool r) ∧ Below w.heap.size w w' := by
 have HB := mk_ (Below.refl w.heap.size w)
 have H := h
 unfold laws_alive.f at H
 clear h
 replace H := Option.bind_eq_some_iff.mp H
 obtain ⟨t294, A10, H⟩ := H
 (try dsimp only at H)
 have A1 := mk_ A10
 clear A10
 by_cases c2 : (t294.length : Int) = 1
 rotate_left
 focus
  rw [if_neg c2] at H
  have c2b0 : ((t294.length : Int) == 1) = false := beq_eq_false_iff_ne.mpr c2
  have c2b1 : ((t294.length : Int) != 1) = true := bne_iff_ne.mpr c2
  obtain rfl := Option.some.inj H
 rotate_left
 focus
  rw [if_pos c2] at H
  have c2b0 : ((t294.length : Int) == 1) = true := beq_iff_eq.mpr c2
  have c2b1 : ((t294.length : Int) != 1) = false := bne_eq_false_iff_eq.mpr c2
  clear c2
  replace H := Option.bind_eq_some_iff.mp H
  obtain ⟨t297, A30, H⟩ := H
  replace H : (some ((t297.length : Int) == 0)) = some r := H
  have A3 := mk_ A30
  clear A30
  obtain rfl := Option.some.inj H
 rotate_left
 all_goals
  go_enter Try.func13, Try.ntmps13
  go_wp2_with (first | ((with_reducible refine gate_callee (f := 56) rfl ?_); have hA_ := A1.out; refine goesL_ (some 1) rfl rfl Try.func56 (by kernel_rfl) rfl #[.int .i64 5, .int .i64 1] rfl (by (try simp only [lm_, lo_, ln_]); try rfl) ?_; (with_reducible refine (impl_BytesOf.calls k 5 1 t294 _ A1.out).mono ?_); rintro e w2840 ⟨v2841, rfl, ho2842, hb⟩; refine ⟨_, rfl, ?_⟩; have HO296 := mk_ (Kd.R_lower ho2842 (below_size (ub_ HB.out))); replace HB := mk_ (below_step (ub_ HB.out) hb); obtain ⟨Ao460296, co460296, eo460296⟩ := Kd.R_slice HO296.out; subst eo460296; clear hA_ A1) | (go_at_call 56; have hA_ := A3.out; (with_reducible refine (impl_BytesOf.calls k 256 1 t297 _ A3.out).mono ?_); rintro e w2880 ⟨v2881, rfl, ho2842, hb⟩; have n0_ := mk_ (Kd.R_elder' (Kd.ur_ HO296.out) (Kd.R_base ho2842) hb); have HO299 := mk_ (Kd.R_lower (Kd.R_new' ho2842 (Kd.R_lt (Kd.ur_ HO296.out))) (below_size (ub_ HB.out))); replace HB := mk_ (below_step (ub_ HB.out) hb); replace HO296 := n0_; clear n0_; obtain ⟨Ao470299, co470299, eo470299⟩ := Kd.R_slice HO299.out; subst eo470299; clear hA_ A3))
  go_ret
  exact ⟨by first | rfl | (simp [errW_none, errW_some] <;> rfl) | (simp [*, errW_none, errW_some] <;> rfl), by repeat (first | (with_reducible first | exact HB.out | apply na_ | apply nn_ | apply nw_) | exact HB.out)⟩

/-! ### impl_RouteTo: function 14 -/
def impl_RouteTo.f (k : Nat) (l0 : List (S29)) (a1 : Int) : Option (Int × Int × Int × Int × Bool) := (impl_RoutesOk.f k l0).bind fun t301 => (if t301 = true then ((impl_word.f a1).bind fun t302 => (if t302 = true then ((impl_routeTo.f l0 a1 17).bind fun bt303 => (some (bt303.1, bt303.2.1, bt303.2.2.1, bt303.2.2.2.1, bt303.2.2.2.2))) else (some (0, 0, 0, 0, false)))) else (some (0, 0, 0, 0, false)))
theorem impl_RouteTo.mono : ∀ a0 a1 k, LeO (impl_RouteTo.f k a0 a1) (impl_RouteTo.f (k + 1) a0 a1) := by
 intro a0 a1 k
 unfold impl_RouteTo.f
 repeat' first
   | (with_reducible exact impl_RoutesOk.mono _ _)
   | (with_reducible exact LeO.refl _)
   | (with_reducible exact LeO.none _)
   | (with_reducible refine LeO.ite ?_ ?_)
   | (with_reducible refine LeO.bind ?_ (fun _ => ?_))
   | exact impl_RoutesOk.mono _ _
   | exact LeO.none _
   | refine LeO.ite ?_ ?_
   | refine LeO.bind ?_ (fun _ => ?_)
set_option maxHeartbeats 8000000 in
set_option maxRecDepth 100000 in
theorem impl_RouteTo.calls (k : Nat) (A0 : Option Addr) (c0 : Nat) (l0 : List (S29)) (a1 : Int) (r1 : Int) (r2 : Int) (r3 : Int) (r4 : Int) (r5 : Bool) (w : World) (hr0 : Kd.C k29 w A0 l0.length l0) (hc0 : l0.length ≤ c0) (h : impl_RouteTo.f k l0 a1 = some (r1, r2, r3, r4, r5)) :
  Calls Try.prog 14 #[.slice A0 l0.length c0, .int .i64 a1] w fun e w' => e = .returned (.tuple #[.agg #[.int .i64 r1, .int .i64 r2, .int .i64 r3, .int .i64 r4], .bool r5]) ∧ Below w.heap.size w w' := by
 have hu29 := Try.underlying29
 have HR0 := mk_ hr0
 have HC0 := mk_ hc0
 clear hr0 hc0
 have HB := mk_ (Below.refl w.heap.size w)
 have H := h
 unfold impl_RouteTo.f at H
 clear h
 replace H := Option.bind_eq_some_iff.mp H
 obtain ⟨t301, A30, H⟩ := H
 (try dsimp only at H)
 have A3 := mk_ A30
 clear A30
 by_cases c4 : t301 = true
 rotate_left
 focus
  replace c4 := Bool.eq_false_iff.mpr c4
  subst c4
  have H1 : (some (0, 0, 0, 0, false)) = some (r1, r2, r3, r4, r5) := by rw [if_neg (show ¬ (false = true) by decide)] at H; exact H
  clear H
  have H := H1
  clear H1
  simp only [Option.some.injEq, Prod.mk.injEq] at H
  obtain ⟨rfl, rfl, rfl, rfl, rfl⟩ := H
 rotate_left
 focus
  subst c4
  rw [if_pos rfl] at H
  replace H := Option.bind_eq_some_iff.mp H
  obtain ⟨t302, A50, H⟩ := H
  (try dsimp only at H)
  have A5 := mk_ A50
  clear A50
  by_cases c6 : t302 = true
  rotate_left
  focus
   replace c6 := Bool.eq_false_iff.mpr c6
   subst c6
   have H1 : (some (0, 0, 0, 0, false)) = some (r1, r2, r3, r4, r5) := by rw [if_neg (show ¬ (false = true) by decide)] at H; exact H
   clear H
   have H := H1
   clear H1
   simp only [Option.some.injEq, Prod.mk.injEq] at H
   obtain ⟨rfl, rfl, rfl, rfl, rfl⟩ := H
  rotate_left
  focus
   subst c6
   rw [if_pos rfl] at H
   replace H := Option.bind_eq_some_iff.mp H
   obtain ⟨⟨t303, t304, t305, t306, t307⟩, A70, H⟩ := H
   replace H : (some (t303, t304, t305, t306, t307)) = some (r1, r2, r3, r4, r5) := H
   have A7 := mk_ A70
   clear A70
   simp only [Option.some.injEq, Prod.mk.injEq] at H
   obtain ⟨rfl, rfl, rfl, rfl, rfl⟩ := H
  rotate_left
 rotate_left 2
 all_goals
  go_enter Try.func14, Try.ntmps14
  go_wp2_with (first | ((with_reducible refine gate_dst (N := 4) rfl ?_); refine box_event ?hg (N := 4) ?hd (cs := #[.int .i64 0, .int .i64 0, .int .i64 0, .int .i64 0]) (t := 29) ?hr ?_; (case hd => rfl); (case hg => rfl); (case hr => first | (go_simp; done) | (go_simp; rfl)); intro gb2920 hg w2921 hbox hb; have n0_ := mk_ (below_step (ub_ HB.out) hb); have BK300 := mk_ (hbox); have GW300 := mk_ ((by rw [hg]; exact (below_size (ub_ HB.out)) : w.heap.size ≤ gb2920)); have GE300 := ge_ ((by rw [hg]; exact (below_size (ub_ HB.out)) : w.heap.size ≤ gb2920)); replace HB := n0_; clear n0_; clear hb hbox hg) | ((with_reducible refine gate_callee (f := 42) rfl ?_); refine goesL_ (some 7) rfl rfl Try.func42 (by kernel_rfl) rfl #[.slice A0 l0.length c0] rfl (by (try simp only [lm_, lo_, ln_]); try rfl) ?_; (with_reducible refine (impl_RoutesOk.calls k _ _ l0 false _ ?side1 ?side2 A3.out).mono ?_); (case side1 => repeat (first | exact (Kd.C_below HR0.out HB.out) | (with_reducible refine Kd.C_alloc ?_ _) | (with_reducible refine Kd.C_drewN ?_ _) | (with_reducible refine Kd.C_drew ?_))); (case side2 => exact HC0.out); rintro e w2960 ⟨rfl, hb⟩; refine ⟨_, rfl, ?_⟩; replace BK300 := mk_ (blk_below (u_ BK300.out) hb); replace HB := mk_ (below_step (us_ HB.out) hb); obtain ⟨_, _, _, _, _, _, _, _⟩ := cells4_ BK300.out) | ((with_reducible refine gate_callee (f := 42) rfl ?_); refine goesL_ (some 7) rfl rfl Try.func42 (by kernel_rfl) rfl #[.slice A0 l0.length c0] rfl (by (try simp only [lm_, lo_, ln_]); try rfl) ?_; (with_reducible refine (impl_RoutesOk.calls k _ _ l0 true _ ?side1 ?side2 A3.out).mono ?_); (case side1 => repeat (first | exact (Kd.C_below HR0.out HB.out) | (with_reducible refine Kd.C_alloc ?_ _) | (with_reducible refine Kd.C_drewN ?_ _) | (with_reducible refine Kd.C_drew ?_))); (case side2 => exact HC0.out); rintro e w2960 ⟨rfl, hb⟩; refine ⟨_, rfl, ?_⟩; replace BK300 := mk_ (blk_below (u_ BK300.out) hb); replace HB := mk_ (below_step (us_ HB.out) hb)) | (go_at_call 49; (with_reducible refine (impl_word.calls a1 false _ A5.out).mono ?_); rintro e w' ⟨rfl, ⟨nd, rfl⟩⟩; (try simp only [World.drewN_drewN]); (try (rw [drewN_self w2960]; generalize hq_ : World.drewN w2960 _ = w2960; have n0_ : Aside0 (w2960.heap[gb2920]? = some (.cells #[.int .i64 0, .int .i64 0, .int .i64 0, .int .i64 0] 29 (0, 0))) := ⟨by rw [← hq_]; exact (u_ BK300.out)⟩; have n1_ : Aside0 (Below w.heap.size w w2960) := ⟨by rw [← hq_]; exact (us_ HB.out)⟩; clear BK300 HB hq_; have BK300 := n0_; have HB := n1_; clear n0_ n1_)); obtain ⟨_, _, _, _, _, _, _, _⟩ := cells4_ BK300.out) | (go_at_call 49; (with_reducible refine (impl_word.calls a1 true _ A5.out).mono ?_); rintro e w' ⟨rfl, ⟨nd, rfl⟩⟩; (try simp only [World.drewN_drewN]); (try (rw [drewN_self w2960]; generalize hq_ : World.drewN w2960 _ = w2960; have n0_ : Aside0 (w2960.heap[gb2920]? = some (.cells #[.int .i64 0, .int .i64 0, .int .i64 0, .int .i64 0] 29 (0, 0))) := ⟨by rw [← hq_]; exact (u_ BK300.out)⟩; have n1_ : Aside0 (Below w.heap.size w w2960) := ⟨by rw [← hq_]; exact (us_ HB.out)⟩; clear BK300 HB hq_; have BK300 := n0_; have HB := n1_; clear n0_ n1_))) | ((with_reducible refine gate_callee (f := 50) rfl ?_); refine goesL_ (some 17) rfl rfl Try.func50 (by kernel_rfl) rfl #[.slice A0 l0.length c0, .int .i64 a1, .int .i64 17] rfl (by (try simp only [lm_, lo_, ln_]); try rfl) ?_; (with_reducible refine (impl_routeTo.calls _ _ l0 a1 17 t303 t304 t305 t306 t307 _ ?side1 ?side2 A7.out).mono ?_); (case side1 => repeat (first | exact (Kd.C_below HR0.out HB.out) | (with_reducible refine Kd.C_alloc ?_ _) | (with_reducible refine Kd.C_drewN ?_ _) | (with_reducible refine Kd.C_drew ?_))); (case side2 => exact HC0.out); rintro e w3120 ⟨rfl, hb⟩; refine ⟨_, rfl, ?_⟩; replace BK300 := mk_ (blk_below (u_ BK300.out) hb); replace HB := mk_ (below_step (us_ HB.out) hb); obtain ⟨_, _, _, _, _, _, _, _⟩ := cells4_ BK300.out))
 iterate 2
  focus
   refine bodyPost_ret (results_ct rfl _ _ gb2920 29 #[.int .i64 0, .int .i64 0, .int .i64 0, .int .i64 0] (0, 0) _ rfl (by (with_reducible repeat (first | refine bn_ ?_ _ | refine bw_ ?_ | refine ba_ ?_ _)); refine blk_put (cs := #[.int .i64 0, .int .i64 0, .int .i64 0, .int .i64 0]) ?_ 3 _ rfl; (with_reducible repeat (first | refine bn_ ?_ _ | refine bw_ ?_ | refine ba_ ?_ _)); refine blk_put (cs := #[.int .i64 0, .int .i64 0, .int .i64 0, .int .i64 0]) ?_ 2 _ rfl; (with_reducible repeat (first | refine bn_ ?_ _ | refine bw_ ?_ | refine ba_ ?_ _)); refine blk_put (cs := #[.int .i64 0, .int .i64 0, .int .i64 0, .int .i64 0]) ?_ 1 _ rfl; (with_reducible repeat (first | refine bn_ ?_ _ | refine bw_ ?_ | refine ba_ ?_ _)); refine blk_put (cs := #[.int .i64 0, .int .i64 0, .int .i64 0, .int .i64 0]) ?_ 0 _ rfl; (with_reducible repeat (first | refine bn_ ?_ _ | refine bw_ ?_ | refine ba_ ?_ _)); exact BK300.out) Try.underlying29 rfl (by kernel_rfl)) rfl ?_
   exact ⟨by first | rfl | (simp [errW_none, errW_some] <;> rfl) | (simp [*, errW_none, errW_some] <;> rfl), us_ HB.out⟩
 ·refine bodyPost_ret (results_ct rfl _ _ gb2920 29 #[.int .i64 t303, .int .i64 t304, .int .i64 t305, .int .i64 t306] (0, 0) _ rfl (by (with_reducible repeat (first | refine bn_ ?_ _ | refine bw_ ?_ | refine ba_ ?_ _)); refine blk_put (cs := #[.int .i64 t303, .int .i64 t304, .int .i64 t305, .int .i64 0]) ?_ 3 _ rfl; (with_reducible repeat (first | refine bn_ ?_ _ | refine bw_ ?_ | refine ba_ ?_ _)); refine blk_put (cs := #[.int .i64 t303, .int .i64 t304, .int .i64 0, .int .i64 0]) ?_ 2 _ rfl; (with_reducible repeat (first | refine bn_ ?_ _ | refine bw_ ?_ | refine ba_ ?_ _)); refine blk_put (cs := #[.int .i64 t303, .int .i64 0, .int .i64 0, .int .i64 0]) ?_ 1 _ rfl; (with_reducible repeat (first | refine bn_ ?_ _ | refine bw_ ?_ | refine ba_ ?_ _)); refine blk_put (cs := #[.int .i64 0, .int .i64 0, .int .i64 0, .int .i64 0]) ?_ 0 _ rfl; (with_reducible repeat (first | refine bn_ ?_ _ | refine bw_ ?_ | refine ba_ ?_ _)); exact BK300.out) Try.underlying29 rfl (by kernel_rfl)) rfl ?_
  exact ⟨by first | rfl | (simp [errW_none, errW_some] <;> rfl) | (simp [*, errW_none, errW_some] <;> rfl), us_ HB.out⟩

end Go.Proofs.Ytkkibccnpkbbjab.MFnPathRoom
