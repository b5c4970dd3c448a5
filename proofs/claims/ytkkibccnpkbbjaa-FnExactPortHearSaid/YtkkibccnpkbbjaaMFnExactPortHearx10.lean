/- Functions that the law FnExactPortHear reaches, each with the proof that the machine's call comes to just its answer; no conditions but those that each theorem states. Printed by a program of this session over the kit's print. -/
import Derived.Test.YtkkibccnpkbbjaaMFnExactPortHearx0
import Derived.RangeFuncNested
import Derived.RangeFuncBound
import Derived.RangeFuncCalls
import Derived.RangeFuncLeaves
import Derived.RangeFuncBox
import Derived.RangeFuncFrom
import Derived.RangeFuncWrites
import Derived.Shelf.Abstract
import Derived.WalkKit
import Derived.OwnWalkIn
import Derived.TacticsInMore
import Derived.LoopNIn
import Derived.LoopIn
import Derived.BigRegionIn
namespace Go.Proofs.Ytkkibccnpkbbjaa.MFnExactPortHear
open Go.RowKit Go.Proofs.YtkkibccnpkbbjaaV.PrintWords Go.Proofs.YtkkibccnpkbbjaaV.PrintLast Go.Proofs.YtkkibccnpkbbjaaV.PrintMore
attribute [local go_sem] max2_int min2_int max_two min_two max_three min_three max_four min_four   -- for this text's walks alone
set_option linter.unusedVariables false
set_option linter.unusedSimpArgs false

/-! ### slices_Equal_byte_byte: function 72 -/
def slices_Equal_byte_byte.l0 : Nat → List Int → List Int → Int → Int → Option (Bool)
 | 0, _, _, _, _ => none
 | k + 1, x0, x1, x12, x13 => if x13 < x12 then (if 0 ≤ x13 then (if x13 < (x0.length : Int) then (if x13 < (x1.length : Int) then (if (rd x0 x13) = (rd x1 x13) then (slices_Equal_byte_byte.l0 k x0 x1 x12 (wrap64 (x13 + 1))) else (some false)) else (none)) else (none)) else (none)) else (some true)
def slices_Equal_byte_byte.f (k : Nat) (l0 : List Int) (l1 : List Int) : Option (Bool) := if (l0.length : Int) = (l1.length : Int) then (slices_Equal_byte_byte.l0 k l0 l1 (l0.length : Int) 0) else (some false)
theorem slices_Equal_byte_byte.mono_l : ∀ k, (∀ y0 y1 y2 y3, LeO (slices_Equal_byte_byte.l0 k y0 y1 y2 y3) (slices_Equal_byte_byte.l0 (k + 1) y0 y1 y2 y3))
 | 0 => fun _ _ _ _ r h => by simp [slices_Equal_byte_byte.l0] at h
 | k + 1 => by
  have ih0 := slices_Equal_byte_byte.mono_l k
  ·intro y0 y1 y2 y3
   unfold slices_Equal_byte_byte.l0
   repeat' first
   | (with_reducible exact ih0 _ _ _ _)
   | (with_reducible exact LeO.refl _)
   | (with_reducible exact LeO.none _)
   | (with_reducible refine LeO.ite ?_ ?_)
   | (with_reducible refine LeO.bind ?_ (fun _ => ?_))
   | exact ih0 _ _ _ _
   | exact LeO.none _
   | refine LeO.ite ?_ ?_
   | refine LeO.bind ?_ (fun _ => ?_)
theorem slices_Equal_byte_byte.mono : ∀ a0 a1 k, LeO (slices_Equal_byte_byte.f k a0 a1) (slices_Equal_byte_byte.f (k + 1) a0 a1) := by
 intro a0 a1 k
 have ih0 := slices_Equal_byte_byte.mono_l k
 unfold slices_Equal_byte_byte.f
 repeat' first
   | (with_reducible exact ih0 _ _ _ _)
   | (with_reducible exact LeO.refl _)
   | (with_reducible exact LeO.none _)
   | (with_reducible refine LeO.ite ?_ ?_)
   | (with_reducible refine LeO.bind ?_ (fun _ => ?_))
   | exact ih0 _ _ _ _
   | exact LeO.none _
   | refine LeO.ite ?_ ?_
   | refine LeO.bind ?_ (fun _ => ?_)
set_option maxHeartbeats 8000000 in
set_option maxRecDepth 100000 in
theorem slices_Equal_byte_byte.calls (k : Nat) (A0 : Option Addr) (c0 : Nat) (l0 : List Int) (A1 : Option Addr) (c1 : Nat) (l1 : List Int) (r : Bool) (w : World) (hr0 : Kd.C (Kd.int .u8) w A0 l0.length l0) (hc0 : l0.length ≤ c0) (hr1 : Kd.C (Kd.int .u8) w A1 l1.length l1) (hc1 : l1.length ≤ c1) (h : slices_Equal_byte_byte.f k l0 l1 = some r) :
  Calls Try.prog 72 #[.slice A0 l0.length c0, .slice A1 l1.length c1] w fun e w' => e = .returned (.bool r) ∧ Drawn0 w w' := by
 have HR0 := mk_ hr0
 have HC0 := mk_ hc0
 clear hr0 hc0
 have HR1 := mk_ hr1
 have HC1 := mk_ hc1
 clear hr1 hc1
 have H := h
 unfold slices_Equal_byte_byte.f at H
 clear h
 by_cases c3 : (l0.length : Int) = (l1.length : Int)
 rotate_left
 ·rw [if_neg c3] at H
  have c3b0 : ((l0.length : Int) == (l1.length : Int)) = false := beq_eq_false_iff_ne.mpr c3
  have c3b1 : ((l0.length : Int) != (l1.length : Int)) = true := bne_iff_ne.mpr c3
  have c3b2 : (l0.length == l1.length) = false := by first | simpa using c3 | (simp at c3 ⊢; omega)
  obtain rfl := Option.some.inj H
  go_enter Try.func72, Try.ntmps72
  go_wp2
  repeat (go_quiet (fail); try go_wp2)
  go_ret
  exact ⟨by first | rfl | (simp; done) | (simp [*]; done), by repeat (first | exact Drawn0.refl _ | apply Drawn0.step)⟩
 rw [if_pos c3] at H
 have c3b0 : ((l0.length : Int) == (l1.length : Int)) = true := beq_iff_eq.mpr c3
 have c3b1 : ((l0.length : Int) != (l1.length : Int)) = false := bne_eq_false_iff_eq.mpr c3
 have c3b2 : (l0.length == l1.length) = true := by first | simpa using c3 | (simp at c3 ⊢; omega)
 clear c3
 have H' := mk_ H
 clear H
 go_enter Try.func72, Try.ntmps72
 go_wp2
 repeat (go_quiet (fail); try go_wp2)
 go_loopg [13] k (fun kq v13 w' => ∃ (x13_1 : Int), v13 = .int .i64 x13_1 ∧ Aside0 (slices_Equal_byte_byte.l0 kq l0 l1 (l0.length : Int) x13_1 = some r) ∧ Aside0 (kq ≤ k) ∧ Drawn0 w w')
 case atStart => exact ⟨(0), (by first | rfl | (simp; done) | (simp [*]; done)), H', ⟨Nat.le_refl _⟩, by repeat (first | exact Drawn0.refl _ | apply Drawn0.step)⟩
 case round =>
  clear H'
  try clear c1
  try clear p2
  try clear c3
  try clear c3b0
  try clear c3b1
  try clear c3b2
  obtain ⟨x13_1, rfl, HA, HK1, ⟨m1, rfl⟩⟩ := hrel
  cases gk with
  | zero => exact absurd HA.out (by simp [slices_Equal_byte_byte.l0])
  | succ k1 =>
   have H := HA.out
   clear HA
   simp only [slices_Equal_byte_byte.l0] at H
   by_cases c4 : x13_1 < (l0.length : Int)
   rotate_left
   ·rw [if_neg c4] at H
    have c4b0 : decide (x13_1 < (l0.length : Int)) = false := decide_eq_false c4
    clear c4
    obtain rfl := Option.some.inj H
    go_wp2
    repeat (go_quiet (fail); try go_wp2)
    go_ret
    exact ⟨by first | rfl | (simp; done) | (simp [*]; done), by repeat (first | exact Drawn0.refl _ | apply Drawn0.step)⟩
   rw [if_pos c4] at H
   have c4b0 : decide (x13_1 < (l0.length : Int)) = true := decide_eq_true c4
   clear c4
   by_cases c5 : 0 ≤ x13_1
   rotate_left
   ·rw [if_neg c5] at H
    exact absurd H (by simp)
   rw [if_pos c5] at H
   have c5b0 : decide (0 ≤ x13_1) = true := decide_eq_true c5
   clear c5
   by_cases c6 : x13_1 < (l0.length : Int)
   rotate_left
   ·rw [if_neg c6] at H
    exact absurd H (by simp)
   rw [if_pos c6] at H
   have c6b0 : decide (x13_1 < (l0.length : Int)) = true := decide_eq_true c6
   clear c6
   by_cases c7 : x13_1 < (l1.length : Int)
   rotate_left
   ·rw [if_neg c7] at H
    exact absurd H (by simp)
   rw [if_pos c7] at H
   have c7b0 : decide (x13_1 < (l1.length : Int)) = true := decide_eq_true c7
   clear c7
   by_cases c8 : (rd l0 x13_1) = (rd l1 x13_1)
   rotate_left
   ·rw [if_neg c8] at H
    have c8b0 : ((rd l0 x13_1) == (rd l1 x13_1)) = false := beq_eq_false_iff_ne.mpr c8
    have c8b1 : ((rd l0 x13_1) != (rd l1 x13_1)) = true := bne_iff_ne.mpr c8
    obtain rfl := Option.some.inj H
    have p298 : 0 ≤ (x13_1 : Int) := of_decide_eq_true (by first | (with_reducible assumption) | assumption)
    have q298 : x13_1 < (l0.length : Int) := of_decide_eq_true (by first | (with_reducible assumption) | assumption)
    obtain ⟨ad298, e298, hx298_0⟩ := Kd.at_int HR0.out x13_1 p298 q298
    cases e298
    replace p298 := eq_true p298
    replace q298 := eq_true q298
    have p299 : 0 ≤ (x13_1 : Int) := of_decide_eq_true (by first | (with_reducible assumption) | assumption)
    have q299 : x13_1 < (l1.length : Int) := of_decide_eq_true (by first | (with_reducible assumption) | assumption)
    obtain ⟨ad299, e299, hx299_0⟩ := Kd.at_int HR1.out x13_1 p299 q299
    cases e299
    replace p299 := eq_true p299
    replace q299 := eq_true q299
    go_wp2
    repeat (go_quiet (fail); try go_wp2)
    go_ret
    exact ⟨by first | rfl | (simp; done) | (simp [*]; done), by repeat (first | exact Drawn0.refl _ | apply Drawn0.step)⟩
   rw [if_pos c8] at H
   have c8b0 : ((rd l0 x13_1) == (rd l1 x13_1)) = true := beq_iff_eq.mpr c8
   have c8b1 : ((rd l0 x13_1) != (rd l1 x13_1)) = false := bne_eq_false_iff_eq.mpr c8
   clear c8
   have H' := mk_ H
   clear H
   have p298 : 0 ≤ (x13_1 : Int) := of_decide_eq_true (by first | (with_reducible assumption) | assumption)
   have q298 : x13_1 < (l0.length : Int) := of_decide_eq_true (by first | (with_reducible assumption) | assumption)
   obtain ⟨ad298, e298, hx298_0⟩ := Kd.at_int HR0.out x13_1 p298 q298
   cases e298
   replace p298 := eq_true p298
   replace q298 := eq_true q298
   have p299 : 0 ≤ (x13_1 : Int) := of_decide_eq_true (by first | (with_reducible assumption) | assumption)
   have q299 : x13_1 < (l1.length : Int) := of_decide_eq_true (by first | (with_reducible assumption) | assumption)
   obtain ⟨ad299, e299, hx299_0⟩ := Kd.at_int HR1.out x13_1 p299 q299
   cases e299
   replace p299 := eq_true p299
   replace q299 := eq_true q299
   go_wp2
   repeat (go_quiet (fail); try go_wp2)
   go_roundg k1
   case measure => have := HK1.out; omega
   case rel => exact ⟨(wrap64 (x13_1 + 1)), (by first | rfl | (simp; done) | (simp [*]; done)), H', ⟨by have := HK1.out; omega⟩, by repeat (first | exact Drawn0.refl _ | apply Drawn0.step)⟩

/-! ### impl_bytesOf: function 81 -/
def impl_bytesOf.l0 : Nat → Int → List Int → Int → Option (List Int)
 | 0, _, _, _ => none
 | k + 1, x0, x5, x6 => if x6 ≥ 0 then (if 0 ≤ x6 then (if x6 < (x5.length : Int) then (impl_bytesOf.l0 k (x0 / 256) (x5.set (x6 : Int).toNat ((x0) % 256)) (wrap64 (x6 - 1))) else (none)) else (none)) else (some x5)
def impl_bytesOf.f (k : Nat) (a0 : Int) (a1 : Int) : Option (List Int) := if 0 ≤ a1 then (if (a1 : Int).toNat ≤ 281474976710656 then (impl_bytesOf.l0 k a0 (List.replicate (a1 : Int).toNat 0) (wrap64 (a1 - 1))) else (none)) else (none)
theorem impl_bytesOf.mono_l : ∀ k, (∀ y0 y1 y2, LeO (impl_bytesOf.l0 k y0 y1 y2) (impl_bytesOf.l0 (k + 1) y0 y1 y2))
 | 0 => fun _ _ _ r h => by simp [impl_bytesOf.l0] at h
 | k + 1 => by
  have ih0 := impl_bytesOf.mono_l k
  ·intro y0 y1 y2
   unfold impl_bytesOf.l0
   repeat' first
   | (with_reducible exact ih0 _ _ _)
   | (with_reducible exact LeO.refl _)
   | (with_reducible exact LeO.none _)
   | (with_reducible refine LeO.ite ?_ ?_)
   | (with_reducible refine LeO.bind ?_ (fun _ => ?_))
   | exact ih0 _ _ _
   | exact LeO.none _
   | refine LeO.ite ?_ ?_
   | refine LeO.bind ?_ (fun _ => ?_)
theorem impl_bytesOf.mono : ∀ a0 a1 k, LeO (impl_bytesOf.f k a0 a1) (impl_bytesOf.f (k + 1) a0 a1) := by
 intro a0 a1 k
 have ih0 := impl_bytesOf.mono_l k
 unfold impl_bytesOf.f
 repeat' first
   | (with_reducible exact ih0 _ _ _)
   | (with_reducible exact LeO.refl _)
   | (with_reducible exact LeO.none _)
   | (with_reducible refine LeO.ite ?_ ?_)
   | (with_reducible refine LeO.bind ?_ (fun _ => ?_))
   | exact ih0 _ _ _
   | exact LeO.none _
   | refine LeO.ite ?_ ?_
   | refine LeO.bind ?_ (fun _ => ?_)
set_option maxHeartbeats 8000000 in
set_option maxRecDepth 100000 in
theorem impl_bytesOf.calls (k : Nat) (a0 : Int) (a1 : Int) (r : List Int) (w : World) (h : impl_bytesOf.f k a0 a1 = some r) :
  Calls Try.prog 81 #[.int .i64 a0, .int .i64 a1] w fun e w' => ∃ v0_ : Value, e = .returned (v0_) ∧ Kd.R (Kd.int .u8) 5 w' w.heap.size (fun _ => True) v0_ r ∧ Below w.heap.size w w' := by
 have HB := mk_ (Below.refl w.heap.size w)
 have H := h
 unfold impl_bytesOf.f at H
 clear h
 by_cases c3 : 0 ≤ a1
 rotate_left
 ·rw [if_neg c3] at H
  exact absurd H (by simp)
 rw [if_pos c3] at H
 have c3b0 := eq_true c3
 have c3b1 : decide (0 ≤ a1) = true := decide_eq_true c3
 clear c3
 by_cases c4 : (a1 : Int).toNat ≤ 281474976710656
 rotate_left
 ·rw [if_neg c4] at H
  exact absurd H (by simp)
 rw [if_pos c4] at H
 have c4b0 := eq_true c4
 have c4b1 : decide ((a1 : Int).toNat ≤ 281474976710656) = true := decide_eq_true c4
 clear c4
 obtain ⟨y300, hy300⟩ : ∃ y_ : List Int, y_ = (List.replicate (a1 : Int).toNat 0) := ⟨_, rfl⟩
 replace H : (impl_bytesOf.l0 k a0 y300 (wrap64 (a1 - 1))) = some r := by first | (rw [hy300]; with_reducible exact H) | (have H2_ := (Option.bind_some _ _).symm.trans H; rw [hy300]; with_reducible exact H2_) | (have H2_ := (Option.bind_some _ _).symm.trans H; with_reducible exact H2_) | with_reducible exact H | (rw [hy300]; exact H) | exact H
 have Ny300 := mk_ hy300
 clear hy300
 have H' := mk_ H
 clear H
 go_enter Try.func81, Try.ntmps81
 go_wp2_with (first | ((with_reducible refine gate_dst (N := 8) rfl ?_); refine Kd.R_make (Kd.int .u8) _ 5 rfl (N := 8) rfl 29 _ _ rfl a1 rfl rfl Try.underlying29 (.int .u8 0) 1 info5 rfl (by decide) (by omega) 0 (ok := fun _ => True) (okp := fun _ => True) rfl (fun _ hk => hk) trivial (of_decide_eq_true (by first | (with_reducible assumption) | assumption)) (Nat.le_trans (Nat.mul_le_mul_right _ (of_decide_eq_true (by first | (with_reducible assumption) | assumption) : a1.toNat ≤ 281474976710656)) (by omega)) (Below.refl _ _) (Nat.le_refl _) ?_; intro v301 w5 ho6 hb hg_ hnew_; clear hg_ hnew_; (first | rw [← Ny300.out] at ho6 | (simp only [Int.reduceToNat] at ho6; rw [← Ny300.out] at ho6)); have HO302 := mk_ (Kd.R_lower ho6 (below_size (ub_ HB.out))); replace HB := mk_ (below_step (ub_ HB.out) hb); clear hb ho6))
 go_loopg [0, 6] k (fun kq v0 v6 w' => ∃ (x0_1 : Int) (x5_1 : List Int) (x6_1 : Int), v0 = .int .i64 x0_1 ∧ v6 = .int .i64 x6_1 ∧ Aside0 (impl_bytesOf.l0 kq x0_1 x5_1 x6_1 = some r) ∧ Aside0 (kq ≤ k) ∧ Aside0 (Kd.R (Kd.int .u8) 5 w' w.heap.size (fun _ => True) v301 x5_1) ∧ Aside0 (Below w.heap.size w w'))
 case atStart => exact ⟨(a0), (y300), (wrap64 (a1 - 1)), (by first | rfl | (simp; done) | (simp [*]; done)), (by first | rfl | (simp; done) | (simp [*]; done)), H', ⟨Nat.le_refl _⟩, ⟨Kd.ur_ HO302.out⟩, ⟨ub_ HB.out⟩⟩
 case round =>
  clear H'
  try clear p2
  try clear c3
  try clear c3b0
  try clear c3b1
  try clear c4
  try clear c4b0
  try clear c4b1
  try clear p6
  obtain ⟨x0_1, x5_1, x6_1, rfl, rfl, HA, HK1, HO_5, HB⟩ := hrel
  cases gk with
  | zero => exact absurd HA.out (by simp [impl_bytesOf.l0])
  | succ k1 =>
   have H := HA.out
   clear HA
   simp only [impl_bytesOf.l0] at H
   by_cases c7 : x6_1 ≥ 0
   rotate_left
   ·rw [if_neg c7] at H
    have c7b0 : decide (0 ≤ x6_1) = false := decide_eq_false c7
    clear c7
    obtain rfl := Option.some.inj H
    go_wp2
    go_ret
    exact ⟨_, by first | rfl | (simp [errW_none, errW_some] <;> rfl) | (simp [*, errW_none, errW_some] <;> rfl), by (with_reducible repeat (first | apply Kd.R_alloc | apply Kd.R_drewN | apply Kd.R_drew)); exact HO_5.out, by repeat (first | (with_reducible first | exact HB.out | apply na_ | apply nn_ | apply nw_) | exact HB.out)⟩
   rw [if_pos c7] at H
   have c7b0 : decide (0 ≤ x6_1) = true := decide_eq_true c7
   clear c7
   by_cases c8 : 0 ≤ x6_1
   rotate_left
   ·rw [if_neg c8] at H
    exact absurd H (by simp)
   rw [if_pos c8] at H
   have c8b0 : decide (0 ≤ x6_1) = true := decide_eq_true c8
   clear c8
   by_cases c9 : x6_1 < (x5_1.length : Int)
   rotate_left
   ·rw [if_neg c9] at H
    exact absurd H (by simp)
   rw [if_pos c9] at H
   have c9b0 : decide (x6_1 < (x5_1.length : Int)) = true := decide_eq_true c9
   clear c9
   obtain ⟨y303, hy303⟩ : ∃ y_ : List Int, y_ = (x5_1.set (x6_1 : Int).toNat ((x0_1) % 256)) := ⟨_, rfl⟩
   replace H : (impl_bytesOf.l0 k1 (x0_1 / 256) y303 (wrap64 (x6_1 - 1))) = some r := by first | (rw [hy303]; with_reducible exact H) | (have H2_ := (Option.bind_some _ _).symm.trans H; rw [hy303]; with_reducible exact H2_) | (have H2_ := (Option.bind_some _ _).symm.trans H; with_reducible exact H2_) | with_reducible exact H | (rw [hy303]; exact H) | exact H
   have Ny303 := mk_ hy303
   clear hy303
   have H' := mk_ H
   clear H
   have p10 : 0 ≤ (x6_1 : Int) := of_decide_eq_true (by first | (with_reducible assumption) | assumption)
   have q10 : (x6_1 : Int) < ((x5_1.length : Int) : Int) := of_decide_eq_true (by first | (with_reducible assumption) | assumption)
   obtain ⟨go10, co10, eo10, gb10, gl10, cl10, HG10⟩ := Kd.R_form HO_5.out (by omega)
   (first | cases eo10 | (injection eo10 with ea_ en_ ec_; (first | subst ea_ | (injection ea_ with ea_; subst ea_)); subst ec_; clear en_))
   have GB10 := mk_ gb10
   have GG10 := mk_ HG10
   clear gb10 gl10 HG10
   obtain ⟨hx10_0, hf10_0⟩ := Kd.R_celln 0 HO_5.out (x6_1 : Int) p10 q10
   replace p10 := eq_true p10
   replace q10 := eq_true q10
   have HP11 := Kd.R_putg HO_5.out (x6_1 : Int) ((x0_1) % 256)
   go_wp2_with (first | ((with_reducible refine gate_store (t := 5) (p := 19) rfl ?_); refine store_event (t := 5) (p := 19) (v := ?_) (w1 := (wr.setCell ⟨go10, (x6_1 : Int).toNat, none⟩ (.int .u8 ((x0_1) % 256)))) ?hg ?ho ?hn ?hr ?_; (case ho => rfl); (case hg => rfl); (case hn => rfl); (case hr => first | (go_simp; done) | (go_simp; rfl)); intro w12 hw; have hg : wr.grownBy w12 (some go10) := (by rw [hw]; exact HP11.2); have hp_ : Kd.R (Kd.int .u8) 5 w12 w.heap.size (fun _ => True) (.slice (some ⟨go10, 0, none⟩) x5_1.length co10) y303 := (by rw [hw, Ny303.out]; exact HP11.1); clear HP11; replace HO_5 := mk_ (hp_); replace HB := mk_ ((by rw [hw]; exact below_set (HB.out) GB10.out : Below w.heap.size w w12)); clear hg hw hp_))
   go_roundg k1
   case measure => have := HK1.out; omega
   case rel => exact ⟨(x0_1 / 256), (y303), (wrap64 (x6_1 - 1)), (by first | rfl | (simp; done) | (simp [*]; done)), (by first | rfl | (simp; done) | (simp [*]; done)), H', ⟨by have := HK1.out; omega⟩, ⟨Kd.ur_ HO_5.out⟩, ⟨ub_ HB.out⟩⟩

/-! ### slices_Grow_byte_byte: function 102, at nil -/
set_option maxHeartbeats 400000 in
set_option maxRecDepth 100000 in
theorem slices_Grow_byte_byte.calls (n : Int) (w : World) (h0 : 0 ≤ n) (h1 : n ≤ 140737488355328) :
    Calls Try.prog 102 #[.slice none 0 0, .int .i64 n] w fun e w' => ∃ v0_ : Value, e = .returned (v0_) ∧ Kd.R (Kd.int .u8) 5 w' w.heap.size (fun _ => True) v0_ [] ∧ Below w.heap.size w w' := by
 have HI := Aside0.mk info5
 have hn0 : decide (n < 0) = false := decide_eq_false (by omega)
 by_cases hz : n = 0
 ·subst hz
  go_enter Try.func102, Try.ntmps102
  go_wp2_with fail
  go_ret
  exact ⟨_, rfl, Kd.R_nil _ _ _ _ _, Below.refl _ _⟩
 ·have hp : decide (0 < n) = true := decide_eq_true (by omega)
  have H0 := Aside0.mk h0
  have H1 := Aside0.mk h1
  clear hz
  go_enter Try.func102, Try.ntmps102
  go_wp2_with (at_builtin; refine Kd.R_append_zeros (Kd.int .u8) (w0 := w) w.heap.size rfl (.tmp 20) (.tmp 21) 29 3 5 (.int .u8 0) 1 rfl Try.underlying29 Try.underlying3 HI.out rfl (by decide) (by omega) (.slice none 0 0) ([] : List Int) (0 : Int) n (fun _ => True) rfl rfl rfl (fun _ _ => trivial) (Kd.R_nil _ _ _ _ _) H0.out (Below.refl _ _) (Nat.le_refl _) (by have := H1.out; have := H0.out; simp; omega) ?_; intro v1 w1 ho hb hg hat; obtain ⟨A1, c1, hv1, hl1, hc1⟩ := Kd.R_reads ho; subst hv1; have HO := Aside0.mk (Kd.R_take (m := 0) ho (Nat.zero_le _)); have HB := Aside0.mk hb; clear ho hb hg hat hc1)
  go_ret
  exact ⟨_, rfl, by simpa using HO.out, HB.out⟩

/-! ### slices_Concat_byte_byte: function 94 -/
theorem slices_Concat_byte_byte.at_rows {e : Nat} {w : World} {A : Option Addr} {n : Nat} {xs : List (List Int)} (h : Kd.C (Kd.slice e (Kd.int .u8)) w A n xs) (i : Nat) (h1 : i < n) :
    ∃ ad A0 c0, A = some ad ∧ w.cell? (ad.add i) = some (.slice A0 (xs.getD i []).length c0) ∧ (xs.getD i []).length ≤ c0 ∧ (Kd.int .u8).C w A0 (xs.getD i []).length (xs.getD i []) := by
  obtain ⟨ad, c, e, _, hK, hc0⟩ := Kd.C_get h ([] : List Int) (i : Int) (by omega) (by omega)
  obtain ⟨A0, c0, rfl, l0, g0⟩ := hK
  have hq : w.cell? (ad.add (i * 1 + 0)) = some (.slice A0 (xs.getD i []).length c0) := hc0 0 _ rfl
  rw [Nat.mul_one, Nat.add_zero] at hq
  exact ⟨ad, A0, c0, e, hq, l0, g0⟩
theorem slices_Concat_byte_byte.flat_step (l : List (List Int)) (q : Nat) (h : q < l.length) : (l.take (q + 1)).flatten = (l.take q).flatten ++ l.getD q [] := by
  rw [List.take_succ_eq_append_getElem h, List.flatten_append, List.getD_eq_getElem?_getD, List.getElem?_eq_getElem h]
  simp
theorem slices_Concat_byte_byte.flat_le (l : List (List Int)) (q : Nat) : (l.take q).flatten.length ≤ l.flatten.length := by
  have h := congrArg List.flatten (List.take_append_drop q l)
  rw [List.flatten_append] at h
  rw [← h, List.length_append]
  omega
def slices_Concat_byte_byte.f (l0 : List (List Int)) : Option (List Int) := if l0.flatten.length < 140737488355328 then some l0.flatten else none
set_option maxHeartbeats 1000000 in
set_option maxRecDepth 100000 in
theorem slices_Concat_byte_byte.calls (A0 : Option Addr) (c0 : Nat) (l0 : List (List Int)) (r : List Int) (w : World) (hr0 : Kd.C (Kd.slice 5 (Kd.int .u8)) w A0 l0.length l0) (hc0 : l0.length ≤ c0) (h : slices_Concat_byte_byte.f l0 = some r) :
    Calls Try.prog 94 #[.slice A0 l0.length c0] w fun e w' => ∃ v0_ : Value, e = .returned (v0_) ∧ Kd.R (Kd.int .u8) 5 w' w.heap.size (fun _ => True) v0_ r ∧ Below w.heap.size w w' := by
 have hlim : l0.flatten.length < 140737488355328 := by
   unfold slices_Concat_byte_byte.f at h
   by_cases hl : l0.flatten.length < 140737488355328
   · exact hl
   · rw [if_neg hl] at h; cases h
 obtain rfl : l0.flatten = r := by
   unfold slices_Concat_byte_byte.f at h
   rw [if_pos hlim] at h
   exact Option.some.inj h
 clear h
 have hlen : l0.length ≤ 9223372036854775807 := hr0.2.1
 have HR := Aside0.mk hr0
 have HL := Aside0.mk hlim
 have HI := Aside0.mk info5
 clear hr0 hc0 hlim
 go_enter Try.func94, Try.ntmps94
 go_wp2
 go_loop [3, 11] (fun s i => ∃ q : Nat, q ≤ l0.length ∧ i = .int .i64 q ∧ s = .int .i64 ((l0.take q).flatten.length : Nat)) (fun _ i => l0.length - (intOf i).toNat)
 case atStart => exact ⟨0, Nat.zero_le _, rfl, rfl⟩
 case round =>
  obtain ⟨q, hq, rfl, rfl⟩ := hrel
  by_cases hlt : q < l0.length
  ·obtain ⟨ad, A1, c1, rfl, hcell, hl1, hC1⟩ := slices_Concat_byte_byte.at_rows HR.out q hlt
   have HS := Aside0.mk (congrArg List.length (slices_Concat_byte_byte.flat_step l0 q hlt))
   have hle : (l0.take q).flatten.length + (l0.getD q []).length < 140737488355328 := by
     have h1 := slices_Concat_byte_byte.flat_le l0 (q + 1)
     have h2 := HL.out
     have h3 := HS.out
     rw [List.length_append] at h3
     omega
   clear hC1
   rw [List.length_append] at HS
   generalize (l0.getD q []).length = b at hle hcell hl1 HS
   generalize (l0.take q).flatten.length = a at hle HS ⊢
   go_wp2
   go_round
   case rel => exact ⟨q + 1, by omega, by go_num, by rw [HS.out]; go_num⟩
   case measure => simp [intOf]; omega
  ·obtain rfl : q = l0.length := by omega
   have HQ := Aside0.mk (show (l0.take l0.length).flatten.length < 140737488355328 by rw [List.take_length]; exact HL.out)
   generalize (l0.take l0.length).flatten.length = tot at HQ ⊢
   go_wp2_with (go_at_call 102; (with_reducible refine (slices_Grow_byte_byte.calls _ _ (by omega) (by have := HQ.out; omega)).mono ?_); rintro e w1 ⟨v1, rfl, ho, hb⟩; have HO := Aside0.mk ho; have HB := Aside0.mk hb; clear ho hb)
   go_loopw [6, 27] (fun v i wr => ∃ q : Nat, q ≤ l0.length ∧ i = .int .i64 q ∧ Aside0 (Kd.R (Kd.int .u8) 5 wr w.heap.size (fun _ => True) v ((l0.take q).flatten)) ∧ Aside0 (Below w.heap.size w wr)) (fun _ i _ => l0.length - (intOf i).toNat)
   case atStart => exact ⟨0, Nat.zero_le _, rfl, ⟨HO.out⟩, ⟨HB.out⟩⟩
   case round =>
    obtain ⟨q, hq, rfl, HO2, HB2⟩ := hrel
    by_cases hlt : q < l0.length
    ·obtain ⟨ad, A1, c1, rfl, hcell, hl1, hC1⟩ := slices_Concat_byte_byte.at_rows (Kd.C_below HR.out HB2.out) q hlt
     have HC := Aside0.mk hC1
     have HS := Aside0.mk (slices_Concat_byte_byte.flat_step l0 q hlt)
     have hle : (l0.take q).flatten.length + (l0.getD q []).length < 140737488355328 := by
       have h1 := slices_Concat_byte_byte.flat_le l0 (q + 1)
       have h2 := HL.out
       have h3 := congrArg List.length HS.out
       rw [List.length_append] at h3
       omega
     have HLE := Aside0.mk hle
     clear hC1 hle
     generalize l0.getD q [] = y at HLE hcell hl1 HS HC
     generalize (l0.take q).flatten = z at HLE HS HO2
     have hbs := HB2.out.size
     go_wp2_with (at_builtin; refine Kd.R_append_rows (Kd.int .u8) (w0 := w) w.heap.size rfl (.tmp 31) (.tmp 32) 29 5 (.int .u8 0) 1 rfl Try.underlying29 HI.out rfl (by decide) (by omega) _ z y _ _ _ (fun _ => True) (fun _ => False) rfl rfl ?aO ?aR (fun _ _ h => h) (fun _ h => h.elim) ?aF ?aB ?aS ?aL ?_; (case aO => exact HO2.out); (case aR => exact HC.out); (case aF => exact fun _ _ => trivial); (case aB => exact HB2.out); (case aS => exact hbs); (case aL => have := HLE.out; omega); intro v1 w2 ho hb hg hat; have HO3 := Aside0.mk ho; have HB3 := Aside0.mk hb; clear ho hb hg hat)
     go_roundw
     case rel => exact ⟨q + 1, by omega, by go_num, ⟨by rw [HS.out]; exact HO3.out⟩, ⟨HB3.out⟩⟩
     case measure => simp [intOf]; omega
    ·obtain rfl : q = l0.length := by omega
     go_wp2
     go_ret
     exact ⟨_, rfl, by have := HO2.out; rwa [List.take_length] at this, HB2.out⟩

-- slices_Chunk_byte_byte_1: see the function that ranges over it

-- slices_Chunk_byte_byte: see the function that ranges over it

/-! ### impl_added: function 104 -/
def impl_added.l0 : Nat → Int → List Int → Int → Int → Option (Int)
 | 0, _, _, _, _ => none
 | k + 1, x3, x6, x7, x8 => if x8 < x7 then (if 0 ≤ x8 then (if x8 < (x6.length : Int) then (if (wrap64 (x3 + (rd x6 x8))) > 65535 then (impl_added.l0 k (wrap64 ((wrap64 (x3 + (rd x6 x8))) - 65535)) x6 x7 (wrap64 (x8 + 1))) else (impl_added.l0 k (wrap64 (x3 + (rd x6 x8))) x6 x7 (wrap64 (x8 + 1)))) else (none)) else (none)) else (some x3)
def impl_added.f (k : Nat) (l0 : List Int) : Option (Int) := impl_added.l0 k 0 l0 (l0.length : Int) 0
theorem impl_added.mono_l : ∀ k, (∀ y0 y1 y2 y3, LeO (impl_added.l0 k y0 y1 y2 y3) (impl_added.l0 (k + 1) y0 y1 y2 y3))
 | 0 => fun _ _ _ _ r h => by simp [impl_added.l0] at h
 | k + 1 => by
  have ih0 := impl_added.mono_l k
  ·intro y0 y1 y2 y3
   unfold impl_added.l0
   repeat' first
   | (with_reducible exact ih0 _ _ _ _)
   | (with_reducible exact LeO.refl _)
   | (with_reducible exact LeO.none _)
   | (with_reducible refine LeO.ite ?_ ?_)
   | (with_reducible refine LeO.bind ?_ (fun _ => ?_))
   | exact ih0 _ _ _ _
   | exact LeO.none _
   | refine LeO.ite ?_ ?_
   | refine LeO.bind ?_ (fun _ => ?_)
theorem impl_added.mono : ∀ a0 k, LeO (impl_added.f k a0) (impl_added.f (k + 1) a0) := by
 intro a0 k
 have ih0 := impl_added.mono_l k
 unfold impl_added.f
 repeat' first
   | (with_reducible exact ih0 _ _ _ _)
   | (with_reducible exact LeO.refl _)
   | (with_reducible exact LeO.none _)
   | (with_reducible refine LeO.ite ?_ ?_)
   | (with_reducible refine LeO.bind ?_ (fun _ => ?_))
   | exact ih0 _ _ _ _
   | exact LeO.none _
   | refine LeO.ite ?_ ?_
   | refine LeO.bind ?_ (fun _ => ?_)
set_option maxHeartbeats 8000000 in
set_option maxRecDepth 100000 in
theorem impl_added.calls (k : Nat) (A0 : Option Addr) (c0 : Nat) (l0 : List Int) (r : Int) (w : World) (hr0 : Kd.C (Kd.int .i64) w A0 l0.length l0) (hc0 : l0.length ≤ c0) (h : impl_added.f k l0 = some r) :
  Calls Try.prog 104 #[.slice A0 l0.length c0] w fun e w' => e = .returned (.int .i64 r) ∧ Drawn0 w w' := by
 have HR0 := mk_ hr0
 have HC0 := mk_ hc0
 clear hr0 hc0
 have H : (impl_added.l0 k 0 l0 (l0.length : Int) 0) = some r := h
 clear h
 have H' := mk_ H
 clear H
 go_enter Try.func104, Try.ntmps104
 go_wp2
 go_loopg [3, 8] k (fun kq v3 v8 w' => ∃ (x3_1 : Int) (x8_1 : Int), v3 = .int .i64 x3_1 ∧ v8 = .int .i64 x8_1 ∧ Aside0 (impl_added.l0 kq x3_1 l0 (l0.length : Int) x8_1 = some r) ∧ Aside0 (kq ≤ k) ∧ Drawn0 w w')
 case atStart => exact ⟨(0), (0), (by first | rfl | (simp; done) | (simp [*]; done)), (by first | rfl | (simp; done) | (simp [*]; done)), H', ⟨Nat.le_refl _⟩, by repeat (first | exact Drawn0.refl _ | apply Drawn0.step)⟩
 case round =>
  clear H'
  try clear c1
  obtain ⟨x3_1, x8_1, rfl, rfl, HA, HK1, ⟨m1, rfl⟩⟩ := hrel
  cases gk with
  | zero => exact absurd HA.out (by simp [impl_added.l0])
  | succ k1 =>
   have H := HA.out
   clear HA
   simp only [impl_added.l0] at H
   by_cases c2 : x8_1 < (l0.length : Int)
   rotate_left
   ·rw [if_neg c2] at H
    have c2b0 : decide (x8_1 < (l0.length : Int)) = false := decide_eq_false c2
    clear c2
    obtain rfl := Option.some.inj H
    go_wp2
    go_ret
    exact ⟨by first | rfl | (simp; done) | (simp [*]; done), by repeat (first | exact Drawn0.refl _ | apply Drawn0.step)⟩
   rw [if_pos c2] at H
   have c2b0 : decide (x8_1 < (l0.length : Int)) = true := decide_eq_true c2
   clear c2
   by_cases c3 : 0 ≤ x8_1
   rotate_left
   ·rw [if_neg c3] at H
    exact absurd H (by simp)
   rw [if_pos c3] at H
   have c3b0 : decide (0 ≤ x8_1) = true := decide_eq_true c3
   clear c3
   by_cases c4 : x8_1 < (l0.length : Int)
   rotate_left
   ·rw [if_neg c4] at H
    exact absurd H (by simp)
   rw [if_pos c4] at H
   have c4b0 : decide (x8_1 < (l0.length : Int)) = true := decide_eq_true c4
   clear c4
   by_cases c5 : (wrap64 (x3_1 + (rd l0 x8_1))) > 65535
   ·rw [if_pos c5] at H
    have c5b0 : decide (65535 < (wrap64 (x3_1 + (rd l0 x8_1)))) = true := decide_eq_true c5
    clear c5
    have H' := mk_ H
    clear H
    have p304 : 0 ≤ (x8_1 : Int) := of_decide_eq_true (by first | (with_reducible assumption) | assumption)
    have q304 : x8_1 < (l0.length : Int) := of_decide_eq_true (by first | (with_reducible assumption) | assumption)
    obtain ⟨ad304, e304, hx304_0⟩ := Kd.at_int HR0.out x8_1 p304 q304
    cases e304
    replace p304 := eq_true p304
    replace q304 := eq_true q304
    go_wp2
    go_roundg k1
    case measure => have := HK1.out; omega
    case rel => exact ⟨(wrap64 ((wrap64 (x3_1 + (rd l0 x8_1))) - 65535)), (wrap64 (x8_1 + 1)), (by first | rfl | (simp; done) | (simp [*]; done)), (by first | rfl | (simp; done) | (simp [*]; done)), H', ⟨by have := HK1.out; omega⟩, by repeat (first | exact Drawn0.refl _ | apply Drawn0.step)⟩
   rw [if_neg c5] at H
   have c5b0 : decide (65535 < (wrap64 (x3_1 + (rd l0 x8_1)))) = false := decide_eq_false c5
   clear c5
   have H' := mk_ H
   clear H
   have p304 : 0 ≤ (x8_1 : Int) := of_decide_eq_true (by first | (with_reducible assumption) | assumption)
   have q304 : x8_1 < (l0.length : Int) := of_decide_eq_true (by first | (with_reducible assumption) | assumption)
   obtain ⟨ad304, e304, hx304_0⟩ := Kd.at_int HR0.out x8_1 p304 q304
   cases e304
   replace p304 := eq_true p304
   replace q304 := eq_true q304
   go_wp2
   go_roundg k1
   case measure => have := HK1.out; omega
   case rel => exact ⟨(wrap64 (x3_1 + (rd l0 x8_1))), (wrap64 (x8_1 + 1)), (by first | rfl | (simp; done) | (simp [*]; done)), (by first | rfl | (simp; done) | (simp [*]; done)), H', ⟨by have := HK1.out; omega⟩, by repeat (first | exact Drawn0.refl _ | apply Drawn0.step)⟩

/-! ### impl_sumOf: function 95 -/
namespace SumOf_
open Go.Shelf
attribute [local go_sem] Oper.semAt_some
/-- The places of a row. -/
abbrev so_Pl (L : Nat) := { i : Nat // i < L }
/-- The cut of at most two from a place on. -/
def so_cutAt (ad : Addr) (L : Nat) (x : so_Pl L) : Value := .slice (some (ad.add x.1)) (min 2 (L - x.1)) (min 2 (L - x.1))
/-- The first k even places. -/
def so_evens (L : Nat) (h : 0 < L) (k : Nat) : List (so_Pl L) := (List.range k).map fun j => if h2 : 2 * j < L then ⟨2 * j, h2⟩ else ⟨0, h⟩
theorem so_evens_succ (L : Nat) (h : 0 < L) (k : Nat) (hk : 2 * k < L) : so_evens L h (k + 1) = so_evens L h k ++ [⟨2 * k, hk⟩] := by simp [so_evens, List.range_succ, hk]
theorem so_evens_length (L : Nat) (h : 0 < L) (k : Nat) : (so_evens L h k).length = k := by simp [so_evens]
/-- What a round keeps: the iterator's two cells, and whatever lay below. -/
def so_Kq (Bs Bn n₀ : Nat) (A B : World) : Prop := (∀ v, A.cell? ⟨Bs, 0, none⟩ = some v → B.cell? ⟨Bs, 0, none⟩ = some v) ∧ (∀ v, A.cell? ⟨Bn, 0, none⟩ = some v → B.cell? ⟨Bn, 0, none⟩ = some v) ∧ Below n₀ A B

theorem so_cut_l (ad : Addr) (L c0 k : Nat) (hk : k < L) (hc : L ≤ c0) (W' : World) : (Instr.slice 29 (.slice (some ad) L c0) (some (.int .i64 (k : Nat))) none none).run Try.prog W' = .ok (.slice (some (ad.add k)) (L - k) (c0 - k)) W' := by
  obtain ⟨i0, hi, _, hsz, _⟩ := info_parts info5
  have ht := Try.underlying29
  have hel : Try.prog.elem 29 = 5 := by simp [Program.elem, ht]
  have hu : Try.prog.underlying 29 = some (.slice (Try.prog.elem 29)) := by rw [hel]; exact ht
  rw [run_slice_l W' 29 (some ad) L c0 hu .i64 (k : Int) (by omega) (by omega), hel]
  have h1 : ¬ c0 = k := by omega
  simp [sizeOf, typeInfo, hi, hsz, sliced, Result.andThen, h1]
theorem so_cut_lhm (ad : Addr) (L c0 k m : Nat) (hk : k < L) (hm : 0 < m) (hc : k + m ≤ L) (hcc : L ≤ c0) (W' : World) : (Instr.slice 29 (.slice (some ad) L c0) (some (.int .i64 (k : Nat))) (some (.int .i64 ((k + m : Nat) : Int))) (some (.int .i64 ((k + m : Nat) : Int)))).run Try.prog W' = .ok (.slice (some (ad.add k)) m m) W' := by
  obtain ⟨i0, hi, _, hsz, _⟩ := info_parts info5
  have ht := Try.underlying29
  have hel : Try.prog.elem 29 = 5 := by simp [Program.elem, ht]
  have hu : Try.prog.underlying 29 = some (.slice (Try.prog.elem 29)) := by rw [hel]; exact ht
  rw [run_slice_lhm W' 29 (some ad) L c0 hu .i64 .i64 .i64 (k : Int) ((k + m : Nat) : Int) ((k + m : Nat) : Int) (by omega) (by omega) (by omega) (by omega), hel]
  have h1 : ¬ k + m = k := by omega
  simp only [sizeOf, typeInfo, sliced]
  simp [hi, hsz, Result.andThen]
  omega
set_option maxRecDepth 100000 in
set_option maxHeartbeats 4000000 in
theorem so_chunk1_in (F : Fence) (n : Nat) (hF : F.fn 107) (hro : F.round = none) (hn : 1 ≤ n) (l Bs Bn n₀ : Nat) (ad : Addr) (L c0 : Nat) (hL : 0 < L) (hreach : L ≤ 140737488355328) (hcap : L ≤ c0) (J Jx : List (so_Pl L) → World → Prop) (hJd : ∀ s W, J s W → J s W.drew)
    (hY : ∀ pre x W, J pre W → pre.length < L → YieldAt F (n - 1) Try.prog l #[so_cutAt ad L x] W fun e W' =>
      (e = .returned (.bool true) ∧ J (pre ++ [x]) W' ∧ so_Kq Bs Bn n₀ W W') ∨ (e = .returned (.bool false) ∧ Jx (pre ++ [x]) W'))
    (W : World) (hBs : W.cell? ⟨Bs, 0, none⟩ = some (.slice (some ad) L c0)) (hBn : W.cell? ⟨Bn, 0, none⟩ = some (.int .i64 2)) (h0 : J [] W) :
    CallsIn F n Try.prog 107 #[.func (.yield l) #[] #[], .pointer (some ⟨Bs, 0, none⟩), .pointer (some ⟨Bn, 0, none⟩)] W fun e W' => (∃ v, e = .returned v) ∧
      ((∃ ys, ys = so_evens L hL ((L + 1) / 2) ∧ J ys W') ∨ (∃ pre, True ∧ Jx pre W')) := by
  refine callsIn_of_wp Try.func107 rfl hF ?_ hro
  simp only [Try.ntmps107, List.size_toArray, List.length_cons, List.length_nil, Nat.reduceAdd, Nat.reduceSub, Array.replicate_succ, Array.replicate_zero, List.push_toArray, List.append_toArray, List.nil_append, List.cons_append]
  gi_wp2
  gi_loopw [4] (fun i wr => ∃ k : Nat, 2 * k ≤ L + 1 ∧ i = .int .i64 (2 * k : Nat) ∧ J (so_evens L hL k) wr ∧ so_Kq Bs Bn n₀ W wr)
    (fun i _ => L + 1 - (intOf i).toNat)
  case atStart => exact ⟨0, Nat.zero_le _, rfl, h0, fun v h => h, fun v h => h, Below.refl _ _⟩
  case round =>
    obtain ⟨k, hk, rfl, hJs, hk1, hk2, hk3⟩ := hrel
    have c1 := hk1 _ hBs
    have c2 := hk2 _ hBn
    by_cases hlt : 2 * k < L
    · obtain ⟨fn, tmps, assign, body, hy, hR⟩ := hY _ ⟨2 * k, hlt⟩ wr hJs (by rw [so_evens_length]; omega)
      have hs1 := so_cut_l ad L c0 (2 * k) hlt hcap
      obtain ⟨m, hm⟩ : ∃ m, m = min 2 (L - 2 * k) := ⟨_, rfl⟩
      have hmi : (if ((L - 2 * k : Nat) : Int) < 2 then ((L - 2 * k : Nat) : Int) else 2) = (m : Int) := by split <;> omega
      have hs2 := so_cut_lhm ad L c0 (2 * k) m hlt (by omega) (by omega) hcap
      have hsum : IntKind.i64.wrap (((2 * k : Nat) : Int) + (m : Int)) = ((2 * k + m : Nat) : Int) := by rw [i64_w]; unfold wrap64; omega
      have hsum2 : wrap64 (((2 * k : Nat) : Int) + (m : Int)) = ((2 * k + m : Nat) : Int) := by unfold wrap64; omega
      have hnext : wrap64 (((2 * k : Nat) : Int) + 2) = ((2 * (k + 1) : Nat) : Int) := by unfold wrap64; omega
      obtain ⟨fn, tmps, assign, body, hy, hR⟩ := hY _ ⟨2 * k, hlt⟩ wr.drew (hJd _ _ hJs) (by rw [so_evens_length]; omega)
      simp only [so_cutAt] at hy
      have c1' : wr.drew.cell? ⟨Bs, 0, none⟩ = some (.slice (some ad) L c0) := c1
      have c2' : wr.drew.cell? ⟨Bn, 0, none⟩ = some (.int .i64 2) := c2
      generalize hkk : 2 * k = kk at *
      gi_wp2
      gi_region
      all_goals (simp only [← hm])
      all_goals gi_wp2
      all_goals
        refine hR.mono ?_
        rintro e W3 (⟨rfl, hJ3, hk4, hk5, hk6⟩ | ⟨rfl, hJx3⟩)
        · have d1 := hk4 _ c1'
          have d2 := hk5 _ c2'
          gi_wp2
          subst hkk
          go_roundw
          case rel => exact ⟨k + 1, by omega, by first | rfl | (simp; omega) | (go_num), by rw [so_evens_succ L hL k hlt]; exact hJ3, fun v h => by rw [hBs] at h; rw [← h]; exact d1, fun v h => by rw [hBn] at h; rw [← h]; exact d2, (hk3.drew).trans hk6⟩
          case measure => simp [intOf]; omega
        · gi_wp2
          refine bodyPost_ret (results_none rfl _ _ _) rfl ?_
          exact ⟨⟨_, rfl⟩, .inr ⟨_, trivial, hJx3⟩⟩
    · obtain rfl : k = (L + 1) / 2 := by omega
      gi_wp2
      go_end0
      exact ⟨⟨_, rfl⟩, .inl ⟨_, rfl, hJs⟩⟩
set_option maxRecDepth 100000 in
set_option maxHeartbeats 2000000 in
theorem so_chunk0_in (F : Fence) (n : Nat) (hF : F.fn 107) (hro : F.round = none) (l Bs Bn : Nat) (A0 : Option Addr) (c0 : Nat) {α : Type} (J : List α → World → Prop)
    (W : World) (hBs : W.cell? ⟨Bs, 0, none⟩ = some (.slice A0 0 c0)) (hBn : W.cell? ⟨Bn, 0, none⟩ = some (.int .i64 2)) (h0 : J [] W) :
    CallsIn F n Try.prog 107 #[.func (.yield l) #[] #[], .pointer (some ⟨Bs, 0, none⟩), .pointer (some ⟨Bn, 0, none⟩)] W fun e W' => (∃ v, e = .returned v) ∧ J [] W' := by
  refine callsIn_of_wp Try.func107 rfl hF ?_ hro
  simp only [Try.ntmps107, List.size_toArray, List.length_cons, List.length_nil, Nat.reduceAdd, Nat.reduceSub, Array.replicate_succ, Array.replicate_zero, List.push_toArray, List.append_toArray, List.nil_append, List.cons_append]
  gi_wp2
  gi_loopw [4] (fun i wr => i = .int .i64 0 ∧ J [] wr ∧ wr = W) (fun _ _ => 0)
  case atStart => exact ⟨rfl, h0, rfl⟩
  case round =>
    obtain ⟨rfl, hJs, rfl⟩ := hrel
    gi_wp2
    go_end0
    exact ⟨⟨_, rfl⟩, hJs⟩
set_option maxHeartbeats 1000000 in
theorem so_chunk_in (F : Fence) (n : Nat) (hF : F.fn 103) (hro : F.round = none) (A0 : Option Addr) (L c0 : Nat) (w : World) :
    CallsIn F n Try.prog 103 #[.slice A0 L c0, .int .i64 2] w fun e w' => e = .returned (.func (.func 107) #[] #[.pointer (some ⟨w.heap.size, 0, none⟩), .pointer (some ⟨w.heap.size + 1, 0, none⟩)]) ∧ w' = (w.alloc (.cells #[.slice A0 L c0] 29)).alloc (.cells #[.int .i64 2] 3) := by
  have hmf : ∀ (fn : Fn) (first cap : Array Value) (w : World), (Instr.makeFunc fn first cap).run Try.prog w = .ok (.func fn first cap) w := fun _ _ _ _ => rfl
  have hc : ((w.alloc (.cells #[.slice A0 L c0] 29)).alloc (.cells #[.int .i64 2] 3)).cell? ⟨w.heap.size + 1, 0, none⟩ = some (.int .i64 2) := by
    have := (Boxed.new (w.alloc (.cells #[.slice A0 L c0] 29)) 3 (.int .i64 2)).cell
    rwa [World.size_alloc] at this
  refine callsIn_of_wp Try.func103 rfl hF ?_ hro
  simp only [Try.ntmps103, List.size_toArray, List.length_cons, List.length_nil, Nat.reduceAdd, Nat.reduceSub, Array.replicate_succ, Array.replicate_zero, List.push_toArray, List.append_toArray, List.nil_append, List.cons_append]
  gi_wp2
  go_ret
  exact ⟨rfl, rfl⟩
theorem so_Kq_t {Bs Bn n₀ : Nat} {A B C : World} (h : so_Kq Bs Bn n₀ A B) (k : so_Kq Bs Bn n₀ B C) : so_Kq Bs Bn n₀ A C := ⟨fun v x => k.1 v (h.1 v x), fun v x => k.2.1 v (h.2.1 v x), h.2.2.trans k.2.2⟩
theorem so_Kq_b {Bs Bn n₀ B : Nat} (hB : n₀ ≤ B) (W : World) (l : Nat) (o o' : Obj) (hl : B ≤ l) (h1 : W.heap[l]? = some o) (h2 : o.isCells = false) (h3 : o.isWalk = false) : so_Kq Bs Bn n₀ W (W.putObj l o') :=
  ⟨fun v h => cell_kept h (grownBy_putObj' W l o') (fun r e => by cases e; exact ⟨o, h1, h2⟩), fun v h => cell_kept h (grownBy_putObj' W l o') (fun r e => by cases e; exact ⟨o, h1, h2⟩), by
    have := belowK_b (w := W) (n₀ := n₀)
    exact ⟨rfl, rfl, rfl, by simp, fun i hi => World.putObj_heap_other (by omega)⟩⟩
theorem so_chunk_stops (F : Fence) (n : Nat) (hF : F.fn 107) (hro : F.round = none) (hn : 1 ≤ n) (Bs Bn n₀ : Nat) (ad : Addr) (L c0 : Nat) (hL : 0 < L) (hreach : L ≤ 140737488355328) (hcap : L ≤ c0) (w : World) (hs : Bs < w.heap.size) (hs' : Bn < w.heap.size)
    (h1 : w.cell? ⟨Bs, 0, none⟩ = some (.slice (some ad) L c0)) (h2 : w.cell? ⟨Bn, 0, none⟩ = some (.int .i64 2)) :
    SeqStopsK F n Try.prog 107 #[.pointer (some ⟨Bs, 0, none⟩), .pointer (some ⟨Bn, 0, none⟩)] (fun x : so_Pl L => #[so_cutAt ad L x]) (so_Kq Bs Bn n₀) (fun ys => ys = so_evens L hL ((L + 1) / 2)) (fun _ => True) L w := fun l J Jx W hW hJ _ hY h0 =>
  so_chunk1_in F n hF hro hn l Bs Bn n₀ ad L c0 hL hreach hcap J Jx (fun s A hA => hJ s A A.drew none hA ⟨rfl, rfl, rfl, Nat.le_refl _, fun _ _ _ => rfl⟩ (fun r e => by cases e)) hY W ((hW.cell (p := ⟨Bs, 0, none⟩) hs).trans h1) ((hW.cell (p := ⟨Bn, 0, none⟩) hs').trans h2) h0
/-- Two bytes, or the last so_one, put side by side. -/
def so_nAt (l : List Int) (i : Nat) : Int := if i + 1 < l.length then Go.bits .or .i64 (wrap64 (wrap64 (rd l (i : Int)) * 256)) (wrap64 (rd l ((i + 1 : Nat) : Int))) else wrap64 (wrap64 (rd l (i : Int)) * 256)
def so_one (a b : Int) : Int := if wrap64 (a + b) > 65535 then wrap64 (wrap64 (a + b) - 65535) else wrap64 (a + b)
def so_addW (s n : Int) : Int := so_one (so_one 0 s) n
theorem so_added2 (k : Nat) (s n : Int) : impl_added.f (k + 3) [s, n] = some (so_addW s n) := by
  have w1 : wrap64 (0 + 1) = 1 := by unfold wrap64; omega
  have w2 : wrap64 (1 + 1) = 2 := by unfold wrap64; omega
  have r0 : rd [s, n] 0 = s := rfl
  have r1 : rd [s, n] 1 = n := rfl
  simp only [impl_added.f]
  rw [impl_added.l0]
  simp only [List.length_cons, List.length_nil, r0, w1]
  rw [if_pos (by decide), if_pos (by decide), if_pos (by decide)]
  have step : ∀ a : Int, impl_added.l0 (k + 2) a [s, n] (((0 + 1 + 1 : Nat) : Int)) 1 = some (so_one a n) := by
    intro a
    rw [impl_added.l0]
    simp only [List.length_cons, List.length_nil, r1, w2]
    rw [if_pos (by decide), if_pos (by decide), if_pos (by decide)]
    unfold so_one
    split
    · rw [impl_added.l0, if_neg (by decide)]
    · rw [impl_added.l0, if_neg (by decide)]
  unfold so_addW
  rw [step, step]
  split
  · rename_i h; rw [show so_one 0 s = wrap64 (wrap64 (0 + s) - 65535) by unfold so_one; rw [if_pos h]]
  · rename_i h; rw [show so_one 0 s = wrap64 (0 + s) by unfold so_one; rw [if_neg h]]
def so_sumW (l : List Int) (pre : List (so_Pl l.length)) : Int := pre.foldl (fun s x => so_addW s (so_nAt l x.1)) 0
theorem so_sumW_snoc (l : List Int) (pre : List (so_Pl l.length)) (x : so_Pl l.length) : so_sumW l (pre ++ [x]) = so_addW (so_sumW l pre) (so_nAt l x.1) := by simp [so_sumW]
theorem so_addedAt (W : World) (s n : Int) : Calls Try.prog 104 #[.slice (some ⟨W.heap.size, 0, none⟩) 2 2] (W.alloc (.cells #[.int .i64 s, .int .i64 n] 3)) fun e w' => e = .returned (.int .i64 (so_addW s n)) ∧ Drawn0 (W.alloc (.cells #[.int .i64 s, .int .i64 n] 3)) w' := by
  have hb := blk_new W (.cells #[.int .i64 s, .int .i64 n] 3 (0, 0))
  have hC : Kd.C (Kd.int .i64) (W.alloc (.cells #[.int .i64 s, .int .i64 n] 3)) (some ⟨W.heap.size, 0, none⟩) [s, n].length [s, n] := by
    refine Kd.C_of_reads (d := (0 : Int)) (h1 := fun _ => rfl) ⟨rfl, by simp, fun _ => ⟨_, rfl, fun j hj => ?_⟩⟩
    have h0 := blk_cell hb 0
    have h1 := blk_cell hb 1
    have hj : j = 0 ∨ j = 1 := by simp at hj; omega
    rcases hj with rfl | rfl
    · exact h0
    · exact h1
  exact impl_added.calls 3 (some ⟨W.heap.size, 0, none⟩) 2 [s, n] _ _ hC (by simp) (so_added2 0 s n)
theorem so_cell_ad {W : World} {p : Addr} {v : Value} (o : Obj) (nd : Nat) (h : W.cell? p = some v) : ((W.alloc o).drewN nd).cell? p = some v :=
  show (W.alloc o).cell? p = some v from cell_kept h (World.grownBy_alloc W o none) (fun r e => by cases e)
theorem so_frozen_ad {W : World} {p : Addr} {v : Value} (o : Obj) (nd : Nat) (h : W.cell? p = some v) (hf : W.frozen? p = false) : ((W.alloc o).drewN nd).frozen? p = false :=
  show (W.alloc o).frozen? p = false from (frozen_kept h (World.grownBy_alloc W o none) (fun r e => by cases e)).trans hf
theorem so_pw_below_drewN2 {B : Nat} {w W : World} (h : Below B w W) (n : Nat) : Below B w (W.drewN n) := pw_below_drewN h n
theorem so_roundEnd {w W : World} {u v : Value} (B : Nat) (o : Obj) (nd : Nat) (hu : v.oneCell' = true) (hu' : u.oneCell' = true) (hc : W.cell? ⟨w.heap.size, 0, none⟩ = some u) (hf : W.frozen? ⟨w.heap.size, 0, none⟩ = false) (hB : Below w.heap.size w W) :
    KeepsFrom B W (((W.alloc o).drewN nd).setCell ⟨w.heap.size, 0, none⟩ v) ∧ so_Kq (w.heap.size + 1) (w.heap.size + 1 + 1) w.heap.size W (((W.alloc o).drewN nd).setCell ⟨w.heap.size, 0, none⟩ v) ∧
      ((((W.alloc o).drewN nd).setCell ⟨w.heap.size, 0, none⟩ v).cell? ⟨w.heap.size, 0, none⟩ = some v ∧ (((W.alloc o).drewN nd).setCell ⟨w.heap.size, 0, none⟩ v).frozen? ⟨w.heap.size, 0, none⟩ = false) ∧ Below w.heap.size w (((W.alloc o).drewN nd).setCell ⟨w.heap.size, 0, none⟩ v) := by
  have c2 := so_cell_ad o nd hc
  have f2 := so_frozen_ad o nd hc hf
  have b1 : Below w.heap.size W (((W.alloc o).drewN nd).setCell ⟨w.heap.size, 0, none⟩ v) := (so_pw_below_drewN2 ((Below.refl w.heap.size W).alloc hB.size o) nd).setCell (p := ⟨w.heap.size, 0, none⟩) (Nat.le_refl _) _
  have k0 : KeepsOthers (W.alloc o) ((W.alloc o).drewN nd) := ⟨Nat.le_refl _, fun _ _ h _ => h⟩
  refine ⟨(((KeepsOthers.alloc W o).trans k0).trans (KeepsOthers.setCell _ _ _)).from _, ⟨fun x hx => ?_, fun x hx => ?_, b1⟩, ⟨World.cell?_setCell_same' _ _ _ (by rw [c2]; rfl), by rw [World.frozen?_setCell]; exact f2⟩, hB.trans b1⟩
  · rw [cell_far (by simp)]
    exact so_cell_ad o nd hx
  · rw [cell_far (by simp; omega)]
    exact so_cell_ad o nd hx
set_option maxRecDepth 100000 in
set_option maxHeartbeats 4000000 in
theorem so_sumOf_in (ad : Addr) (c0 : Nat) (l0 : List Int) (w : World) (hr0 : Kd.C (Kd.int .u8) w (some ad) l0.length l0) (hc0 : l0.length ≤ c0) (hL : 0 < l0.length) (hlim : l0.length < 140737488355328) :
    CallsIn Fence.wide 5 Try.prog 95 #[.slice (some ad) l0.length c0] w fun e W' => e = .returned (.int .i64 (wrap64 (65535 - so_sumW l0 (so_evens l0.length hL ((l0.length + 1) / 2))))) ∧ Below w.heap.size w W' := by
  refine callsIn_of_wp_marks Try.func95 rfl trivial ?_ rfl
  simp only [Try.ntmps95, List.size_toArray, List.length_cons, List.length_nil, Nat.reduceAdd, Nat.reduceSub, Array.replicate_succ, Array.replicate_zero, List.push_toArray, List.append_toArray, List.nil_append, List.cons_append]
  gi_wp2_with (refine ⟨trivial, ?_⟩; gi_at_call 103; refine (so_chunk_in Fence.wide 4 trivial rfl _ _ _ _).mono ?_; rintro e w' ⟨rfl, rfl⟩)
  have bS := Boxed.new w 3 (.int .i64 0)
  have bs := Boxed.new (w.alloc (.cells #[.int .i64 0] 3)) 29 (.slice (some ad) l0.length c0)
  have bn := Boxed.new ((w.alloc (.cells #[.int .i64 0] 3)).alloc (.cells #[.slice (some ad) l0.length c0] 29)) 3 (.int .i64 2)
  rw [World.size_alloc] at bs
  rw [World.size_alloc, World.size_alloc] at bn
  have hB0 : Below w.heap.size w (((w.alloc (.cells #[.int .i64 0] 3)).alloc (.cells #[.slice (some ad) l0.length c0] 29)).alloc (.cells #[.int .i64 2] 3)) := (((Below.refl _ w).alloc (Nat.le_refl _) _).alloc (by simp) _).alloc (by simp; omega) _
  refine wpIn_rangeFunc_ownG rfl (by decide : 1 ≤ 5) (gf := 107) (lb := #[.pointer (some ⟨w.heap.size + 1, 0, none⟩), .pointer (some ⟨w.heap.size + 1 + 1, 0, none⟩)]) rfl trivial (enters_of Try.func107 (by kernel_rfl) rfl)
    (so_chunk_stops Fence.wide 4 trivial rfl (by omega) (w.heap.size + 1) (w.heap.size + 1 + 1) w.heap.size ad l0.length c0 hL (by omega) hc0 _ (by simp) (by simp) (bs.alloc _).cell bn.cell) so_Kq_t (so_Kq_b hB0.size) (Below.refl _ _) (fun _ => rfl)
    (fun pre W => (W.cell? ⟨w.heap.size, 0, none⟩ = some (.int .i64 (so_sumW l0 pre)) ∧ W.frozen? ⟨w.heap.size, 0, none⟩ = false) ∧ Below w.heap.size w W)
    (fun _ _ _ => False)
    (OwnFrom.and (Own.from (fun s A B row hs hg hr => ⟨cell_kept hs.1 hg hr, (frozen_kept hs.1 hg hr).trans hs.2⟩) _) (ownFrom_below (Nat.le_refl _) (by simp; omega)))
    (fun _ _ _ _ _ hs _ _ => hs)
    ⟨⟨((bS.alloc _).alloc _).cell, ((bS.alloc _).alloc _).frozen⟩, hB0⟩
    (fun x => { tmps := #[.slice (some ad) l0.length c0, undef, .int .i64 0, .pointer (some ⟨w.heap.size, 0, none⟩), so_cutAt ad l0.length x, undef, .slice (some ad) l0.length c0, .func (.func 107) #[] #[.pointer (some ⟨w.heap.size + 1, 0, none⟩), .pointer (some ⟨w.heap.size + 1 + 1, 0, none⟩)], so_cutAt ad l0.length x, undef, undef, undef, undef, undef, undef, undef, undef, undef, undef, undef, undef, undef, undef, undef, undef, undef, undef, undef, undef], defers := [] }) ?assign ?body ?done ?stop
  case assign =>
    intro l x W K hK
    gi_wp2
    exact hK
  case body =>
    rintro lr pre x W ⟨⟨hc, hf⟩, hB⟩ _
    have HRW := Kd.C_below hr0 hB
    have hx := x.2
    obtain ⟨ad', e', h00⟩ := Kd.at_int HRW (x.1 : Int) (by omega) (by omega)
    cases e'
    rw [Int.toNat_natCast] at h00
    by_cases h2 : x.1 + 1 < l0.length
    · have hm : min 2 (l0.length - x.1) = 2 := by omega
      obtain ⟨ad2, e2, h01⟩ := Kd.at_int HRW ((x.1 + 1 : Nat) : Int) (by omega) (by omega)
      cases e2
      rw [Int.toNat_natCast] at h01
      have h01' : W.cell? { block := (ad.add x.1).block, off := (ad.add x.1).off + 1 } = some (.int .u8 (rd l0 ((x.1 + 1 : Nat) : Int))) := by
        have e1 : ({ block := (ad.add x.1).block, off := (ad.add x.1).off + 1 } : Addr) = ad.add (x.1 + 1) := by
          unfold Addr.add
          by_cases h0 : x.1 = 0
          · simp [h0]
          · simp [h0]; omega
        rw [e1]; exact h01
      simp only [so_cutAt, hm]
      gi_wp2_with (refine ⟨trivial, ?_⟩; gi_at_call 104; refine (CallsIn.inRound lr (callsIn_wide.2 (so_addedAt W _ _))).mono ?_; rintro e w' ⟨rfl, ⟨nd, rfl⟩⟩; have hc2 := so_cell_ad (.cells #[.int .i64 (so_sumW l0 pre), .int .i64 (Go.bits .or .i64 (wrap64 (wrap64 (rd l0 (x.1 : Int)) * 256)) (wrap64 (rd l0 ((x.1 : Int) + 1))))] 3) nd hc; have hf2 := so_frozen_ad (.cells #[.int .i64 (so_sumW l0 pre), .int .i64 (Go.bits .or .i64 (wrap64 (wrap64 (rd l0 (x.1 : Int)) * 256)) (wrap64 (rd l0 ((x.1 : Int) + 1))))] 3) nd hc hf)
      obtain ⟨e1, e2, e3, e4⟩ := so_roundEnd (w := w) (W := W) (v := .int .i64 (so_addW (so_sumW l0 pre) (so_nAt l0 x.1))) _ (.cells #[.int .i64 (so_sumW l0 pre), .int .i64 (Go.bits .or .i64 (wrap64 (wrap64 (rd l0 (x.1 : Int)) * 256)) (wrap64 (rd l0 ((x.1 : Int) + 1))))] 3) nd rfl rfl hc hf hB
      have hn : so_nAt l0 x.1 = Go.bits .or .i64 (wrap64 (wrap64 (rd l0 (x.1 : Int)) * 256)) (wrap64 (rd l0 ((x.1 : Int) + 1))) := by unfold so_nAt; rw [if_pos h2]; rfl
      rw [hn] at e1 e2 e3 e4
      exact ⟨e1, e2, ⟨⟨by rw [so_sumW_snoc, hn]; exact e3.1, e3.2⟩, e4⟩⟩
    · have hm : min 2 (l0.length - x.1) = 1 := by omega
      simp only [so_cutAt, hm]
      gi_wp2_with (refine ⟨trivial, ?_⟩; gi_at_call 104; refine (CallsIn.inRound lr (callsIn_wide.2 (so_addedAt W _ _))).mono ?_; rintro e w' ⟨rfl, ⟨nd, rfl⟩⟩; have hc2 := so_cell_ad (.cells #[.int .i64 (so_sumW l0 pre), .int .i64 (wrap64 (wrap64 (rd l0 (x.1 : Int)) * 256))] 3) nd hc; have hf2 := so_frozen_ad (.cells #[.int .i64 (so_sumW l0 pre), .int .i64 (wrap64 (wrap64 (rd l0 (x.1 : Int)) * 256))] 3) nd hc hf)
      obtain ⟨e1, e2, e3, e4⟩ := so_roundEnd (w := w) (W := W) (v := .int .i64 (so_addW (so_sumW l0 pre) (so_nAt l0 x.1))) _ (.cells #[.int .i64 (so_sumW l0 pre), .int .i64 (wrap64 (wrap64 (rd l0 (x.1 : Int)) * 256))] 3) nd rfl rfl hc hf hB
      have hn : so_nAt l0 x.1 = wrap64 (wrap64 (rd l0 (x.1 : Int)) * 256) := by unfold so_nAt; rw [if_neg h2]
      rw [hn] at e1 e2 e3 e4
      exact ⟨e1, e2, ⟨⟨by rw [so_sumW_snoc, hn]; exact e3.1, e3.2⟩, e4⟩⟩
  case done =>
    rintro D ys W hD rfl ⟨⟨hc, _⟩, hB⟩ hK
    gi_wp2
    refine ⟨by simp, .inl ⟨_, _, rfl, run_takeDeferred hK, ?_⟩⟩
    exact ⟨_, results_tmp rfl _ _ _, rfl, hB.trans (belowK_b (w := w) (Nat.le_refl _) W D _ _ (by simp at hD; omega) hK rfl rfl)⟩
  case stop =>
    rintro D c pre W _ _ h _
    exact h.elim
set_option maxRecDepth 100000 in
set_option maxHeartbeats 4000000 in
theorem so_sumOf0_in (A0 : Option Addr) (c0 : Nat) (w : World) :
    CallsIn Fence.wide 5 Try.prog 95 #[.slice A0 0 c0] w fun e W' => e = .returned (.int .i64 65535) ∧ Below w.heap.size w W' := by
  refine callsIn_of_wp_marks Try.func95 rfl trivial ?_ rfl
  simp only [Try.ntmps95, List.size_toArray, List.length_cons, List.length_nil, Nat.reduceAdd, Nat.reduceSub, Array.replicate_succ, Array.replicate_zero, List.push_toArray, List.append_toArray, List.nil_append, List.cons_append]
  gi_wp2_with (refine ⟨trivial, ?_⟩; gi_at_call 103; refine (so_chunk_in Fence.wide 4 trivial rfl _ _ _ _).mono ?_; rintro e w' ⟨rfl, rfl⟩)
  have bS := Boxed.new w 3 (.int .i64 0)
  have bs := Boxed.new (w.alloc (.cells #[.int .i64 0] 3)) 29 (.slice A0 0 c0)
  have bn := Boxed.new ((w.alloc (.cells #[.int .i64 0] 3)).alloc (.cells #[.slice A0 0 c0] 29)) 3 (.int .i64 2)
  rw [World.size_alloc] at bs
  rw [World.size_alloc, World.size_alloc] at bn
  have hB0 : Below w.heap.size w (((w.alloc (.cells #[.int .i64 0] 3)).alloc (.cells #[.slice A0 0 c0] 29)).alloc (.cells #[.int .i64 2] 3)) := (((Below.refl _ w).alloc (Nat.le_refl _) _).alloc (by simp) _).alloc (by simp; omega) _
  have hS : SeqStopsK Fence.wide 4 Try.prog 107 #[.pointer (some ⟨w.heap.size + 1, 0, none⟩), .pointer (some ⟨w.heap.size + 1 + 1, 0, none⟩)] (fun x : so_Pl 0 => #[so_cutAt ⟨0, 0, none⟩ 0 x]) (so_Kq (w.heap.size + 1) (w.heap.size + 1 + 1) w.heap.size) (fun ys => ys = []) (fun _ => True) 0 (((w.alloc (.cells #[.int .i64 0] 3)).alloc (.cells #[.slice A0 0 c0] 29)).alloc (.cells #[.int .i64 2] 3)) :=
    fun l J Jx W hW hJ _ hY h0 => (so_chunk0_in Fence.wide 4 trivial rfl l (w.heap.size + 1) (w.heap.size + 1 + 1) A0 c0 J W ((hW.cell (p := ⟨w.heap.size + 1, 0, none⟩) (by simp)).trans (bs.alloc _).cell) ((hW.cell (p := ⟨w.heap.size + 1 + 1, 0, none⟩) (by simp)).trans bn.cell) h0).mono (fun e W' ⟨he, hj⟩ => ⟨he, .inl ⟨[], rfl, hj⟩⟩)
  refine wpIn_rangeFunc_ownG rfl (by decide : 1 ≤ 5) (gf := 107) (lb := #[.pointer (some ⟨w.heap.size + 1, 0, none⟩), .pointer (some ⟨w.heap.size + 1 + 1, 0, none⟩)]) rfl trivial (enters_of Try.func107 (by kernel_rfl) rfl)
    hS so_Kq_t (so_Kq_b hB0.size) (Below.refl _ _) (fun _ => rfl)
    (fun pre W => (W.cell? ⟨w.heap.size, 0, none⟩ = some (.int .i64 0) ∧ W.frozen? ⟨w.heap.size, 0, none⟩ = false) ∧ Below w.heap.size w W)
    (fun _ _ _ => False)
    (OwnFrom.and (Own.from (fun s A B row hs hg hr => ⟨cell_kept hs.1 hg hr, (frozen_kept hs.1 hg hr).trans hs.2⟩) _) (ownFrom_below (Nat.le_refl _) (by simp; omega)))
    (fun _ _ _ _ _ hs _ _ => hs)
    ⟨⟨((bS.alloc _).alloc _).cell, ((bS.alloc _).alloc _).frozen⟩, hB0⟩
    (fun x => { tmps := #[], defers := [] }) ?assign ?body ?done ?stop
  case assign =>
    intro l x W K hK
    exact absurd x.2 (Nat.not_lt_zero _)
  case body =>
    rintro lr pre x W _ _
    exact absurd x.2 (Nat.not_lt_zero _)
  case done =>
    rintro D ys W hD rfl ⟨⟨hc, _⟩, hB⟩ hK
    gi_wp2
    refine ⟨by simp, .inl ⟨_, _, rfl, run_takeDeferred hK, ?_⟩⟩
    exact ⟨_, results_tmp rfl _ _ _, rfl, hB.trans (belowK_b (w := w) (Nat.le_refl _) W D _ _ (by simp at hD; omega) hK rfl rfl)⟩
  case stop =>
    rintro D c pre W _ _ h _
    exact h.elim
/-- The sum of a row's bytes, two by two. -/
def so_sumAll (l : List Int) : Int := if h : 0 < l.length then so_sumW l (so_evens l.length h ((l.length + 1) / 2)) else 0
end SumOf_
open SumOf_ in
def impl_sumOf.f (l0 : List Int) : Option Int := if l0.length < 140737488355328 then some (wrap64 (65535 - so_sumAll l0)) else none
open SumOf_ in
theorem impl_sumOf.calls (A0 : Option Addr) (c0 : Nat) (l0 : List Int) (r : Int) (w : World) (hr0 : Kd.C (Kd.int .u8) w A0 l0.length l0) (hc0 : l0.length ≤ c0) (h : impl_sumOf.f l0 = some r) :
    Calls Try.prog 95 #[.slice A0 l0.length c0] w fun e w' => e = .returned (.int .i64 r) ∧ Below w.heap.size w w' := by
 unfold impl_sumOf.f at h
 by_cases hlim : l0.length < 140737488355328
 ·rw [if_pos hlim] at h
  obtain rfl := Option.some.inj h
  unfold so_sumAll
  by_cases hL : 0 < l0.length
  ·rw [dif_pos hL]
   obtain ⟨ad, rfl, _⟩ := Kd.at_int hr0 0 (by omega) (by omega)
   exact (callsIn_wide (n := 5)).1 (so_sumOf_in ad c0 l0 w hr0 hc0 hL hlim)
  ·rw [dif_neg hL, show wrap64 (65535 - 0) = 65535 by unfold wrap64; omega]
   obtain rfl : l0 = [] := List.eq_nil_of_length_eq_zero (by omega)
   exact (callsIn_wide (n := 5)).1 (so_sumOf0_in A0 c0 w)
 · rw [if_neg hlim] at h; cases h

/-! ### impl_between: function 96 -/
def impl_between.f (k : Nat) (a0 : Int) (a1 : Int) : Option (List Int) := (impl_bytesOf.f k a0 2).bind fun t305 => ((impl_bytesOf.f k a1 2).bind fun t308 => ((slices_Concat_byte_byte.f (([t305, t308] : List (List Int)))).bind fun t314 => (some t314)))
theorem impl_between.mono : ∀ a0 a1 k, LeO (impl_between.f k a0 a1) (impl_between.f (k + 1) a0 a1) := by
 intro a0 a1 k
 unfold impl_between.f
 repeat' first
   | (with_reducible exact impl_bytesOf.mono _ _ _)
   | (with_reducible exact LeO.refl _)
   | (with_reducible exact LeO.none _)
   | (with_reducible refine LeO.ite ?_ ?_)
   | (with_reducible refine LeO.bind ?_ (fun _ => ?_))
   | exact impl_bytesOf.mono _ _ _
   | exact LeO.none _
   | refine LeO.ite ?_ ?_
   | refine LeO.bind ?_ (fun _ => ?_)
set_option maxHeartbeats 8000000 in
set_option maxRecDepth 100000 in
theorem impl_between.calls (k : Nat) (a0 : Int) (a1 : Int) (r : List Int) (w : World) (h : impl_between.f k a0 a1 = some r) :
  Calls Try.prog 96 #[.int .i64 a0, .int .i64 a1] w fun e w' => ∃ v0_ : Value, e = .returned (v0_) ∧ Kd.R (Kd.int .u8) 5 w' w.heap.size (fun _ => True) v0_ r ∧ Below w.heap.size w w' := by
 have HB := mk_ (Below.refl w.heap.size w)
 have H := h
 unfold impl_between.f at H
 clear h
 replace H := Option.bind_eq_some_iff.mp H
 obtain ⟨t305, A30, H⟩ := H
 (try dsimp only at H)
 have A3 := mk_ A30
 clear A30
 replace H := Option.bind_eq_some_iff.mp H
 obtain ⟨t308, A40, H⟩ := H
 (try dsimp only at H)
 have A4 := mk_ A40
 clear A40
 obtain ⟨y311, hy311⟩ : ∃ y_ : List (List Int), y_ = (([t305, t308] : List (List Int))) := ⟨_, rfl⟩
 replace H : ((slices_Concat_byte_byte.f y311).bind fun t314 => (some t314)) = some r := by first | (rw [hy311]; with_reducible exact H) | (have H2_ := (Option.bind_some _ _).symm.trans H; rw [hy311]; with_reducible exact H2_) | (have H2_ := (Option.bind_some _ _).symm.trans H; with_reducible exact H2_) | with_reducible exact H | (rw [hy311]; exact H) | exact H
 have Ny311 := mk_ hy311
 clear hy311
 replace H := Option.bind_eq_some_iff.mp H
 obtain ⟨t314, A50, H⟩ := H
 replace H : (some t314) = some r := H
 have A5 := mk_ A50
 clear A50
 obtain rfl := Option.some.inj H
 go_enter Try.func96, Try.ntmps96
 go_wp2_with (first | ((with_reducible refine gate_callee (f := 81) rfl ?_); have hA_ := A3.out; refine goesL_ (some 6) rfl rfl Try.func81 (by kernel_rfl) rfl #[.int .i64 a0, .int .i64 2] rfl (by (try simp only [lm_, lo_, ln_]); try rfl) ?_; (with_reducible refine (impl_bytesOf.calls k a0 2 t305 _ A3.out).mono ?_); rintro e w6 ⟨v306, rfl, ho0, hb⟩; refine ⟨_, rfl, ?_⟩; have HO307 := mk_ (Kd.R_lower ho0 (below_size (ub_ HB.out))); replace HB := mk_ (below_step (ub_ HB.out) hb); clear hA_ A3) | ((with_reducible refine gate_callee (f := 81) rfl ?_); have hA_ := A4.out; refine goesL_ (some 8) rfl rfl Try.func81 (by kernel_rfl) rfl #[.int .i64 a1, .int .i64 2] rfl (by (try simp only [lm_, lo_, ln_]); try rfl) ?_; (with_reducible refine (impl_bytesOf.calls k a1 2 t308 _ A4.out).mono ?_); rintro e w7 ⟨v309, rfl, ho0, hb⟩; refine ⟨_, rfl, ?_⟩; have n0_ := mk_ (Kd.R_elder' (Kd.ur_ HO307.out) (Kd.R_base ho0) hb); have HO310 := mk_ (Kd.R_lower (Kd.R_new' ho0 (Kd.R_lt (Kd.ur_ HO307.out))) (below_size (ub_ HB.out))); replace HB := mk_ (below_step (ub_ HB.out) hb); replace HO307 := n0_; clear n0_; obtain ⟨Ao8, co8, eo8⟩ := Kd.R_slice HO307.out; subst eo8; obtain ⟨Ao9, co9, eo9⟩ := Kd.R_slice HO310.out; subst eo9; clear hA_ A4) | ((with_reducible refine gate_dst (N := 9) rfl ?_); refine Kd.N_lit (Kd.slice 5 (Kd.int .u8)) _ 29 ?hg (N' := 9) ?hd (xs := ([t305, t308] : List (List Int))) (inner := [.slice Ao8 t305.length co8, .slice Ao9 t308.length co9]) (ok := (fun _ => True)) (okp := (fun _ => True)) ?hr ?hp (fun _ hk => hk) ((show ∀ k_, w7.heap.size ≤ k_ → (fun _ => True) k_ from fun k_ hk => trivial) _ (Nat.le_refl _)) (Below.refl _ _) (Nat.le_refl _) (by simp) ?_; (case hd => rfl); (case hg => rfl); (case hr => first | (go_simp; done) | (go_simp; rfl)); (case hp => exact (Reps.one (show Kd.FK (Kd.slice 5 (Kd.int .u8)) _ _ t305 [.slice Ao8 t305.length co8] from (Kd.FK_slice_mk (Kd.R_reads' (Kd.R_mono (ok' := (fun _ => True)) (HO307.out) (fun k_ hk => trivial))).2.1 (Kd.R_F (Kd.R_mono (ok' := (fun _ => True)) (HO307.out) (fun k_ hk => trivial))))) (Reps.one (show Kd.FK (Kd.slice 5 (Kd.int .u8)) _ _ t308 [.slice Ao9 t308.length co9] from (Kd.FK_slice_mk (Kd.R_reads' (Kd.R_mono (ok' := (fun _ => True)) (HO310.out) (fun k_ hk => trivial))).2.1 (Kd.R_F (Kd.R_mono (ok' := (fun _ => True)) (HO310.out) (fun k_ hk => trivial))))) (Reps.none _ _)))); intro v312 w10 ho11 hb hg_ hnew_; clear hg_ hnew_; (first | rw [← Ny311.out] at ho11 | (simp only [Int.reduceToNat] at ho11; rw [← Ny311.out] at ho11)); have HO313 := mk_ (Kd.N_lower ho11 (below_size (ub_ HB.out))); replace HB := mk_ (below_step (ub_ HB.out) hb); clear HO307 HO310; clear hb ho11; obtain ⟨Ao12, co12, eo12⟩ := Kd.N_slice HO313.out; subst eo12) | ((with_reducible refine gate_callee (f := 94) rfl ?_); refine goesL_ (some 10) rfl rfl Try.func94 (by kernel_rfl) rfl #[.slice Ao12 y311.length co12] rfl (by (try simp only [lm_, lo_, ln_]); try rfl) ?_; (with_reducible refine (slices_Concat_byte_byte.calls _ _ y311 t314 _ ?side1 ?side2 A5.out).mono ?_); (case side1 => repeat (first | exact (Kd.N_reads' HO313.out).2.2 | (with_reducible refine Kd.C_alloc ?_ _) | (with_reducible refine Kd.C_drewN ?_ _) | (with_reducible refine Kd.C_drew ?_))); (case side2 => exact (Kd.N_reads' HO313.out).2.1); rintro e w13 ⟨v315, rfl, ho0, hb⟩; refine ⟨_, rfl, ?_⟩; replace HO313 := mk_ (Kd.N_elder' (by (with_reducible repeat (first | apply Kd.N_alloc | apply Kd.N_drewN | apply Kd.N_drew)); exact HO313.out) (Kd.R_base ho0) hb); have HO316 := mk_ (Kd.R_lower ho0 (below_size (ub_ HB.out))); replace HB := mk_ (below_step (ub_ HB.out) hb)))
 go_ret
 exact ⟨_, by first | rfl | (simp [errW_none, errW_some] <;> rfl) | (simp [*, errW_none, errW_some] <;> rfl), by (with_reducible repeat (first | apply Kd.R_alloc | apply Kd.R_drewN | apply Kd.R_drew)); exact HO316.out, by repeat (first | (with_reducible first | exact HB.out | apply na_ | apply nn_ | apply nw_) | exact HB.out)⟩

end Go.Proofs.Ytkkibccnpkbbjaa.MFnExactPortHear
