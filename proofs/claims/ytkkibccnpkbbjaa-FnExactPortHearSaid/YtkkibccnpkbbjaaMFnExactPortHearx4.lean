/- Functions that the law FnExactPortHear reaches, each with the proof that the machine's call comes to just its answer; no conditions but those that each theorem states. Printed by a program of this session over the kit's print. -/
import Derived.Test.YtkkibccnpkbbjaaMFnExactPortHearx0
import Derived.Test.YtkkibccnpkbbjaaMFnExactPortHearx1
import Derived.Test.YtkkibccnpkbbjaaMFnExactPortHearx3
namespace Go.Proofs.Ytkkibccnpkbbjaa.MFnExactPortHear
open Go.RowKit Go.Proofs.YtkkibccnpkbbjaaV.PrintWords Go.Proofs.YtkkibccnpkbbjaaV.PrintLast Go.Proofs.YtkkibccnpkbbjaaV.PrintMore
attribute [local go_sem] max2_int min2_int max_two min_two max_three min_three max_four min_four   -- for this text's walks alone
set_option linter.unusedVariables false
set_option linter.unusedSimpArgs false

/-! ### laws_heldMailS: function 57 -/
def laws_heldMailS.l0 : Nat → List (S40) → Int → Int → Option (Int)
 | 0, _, _, _ => none
 | k + 1, x0, x1, x5 => if x5 < (x0.length : Int) then (if 0 ≤ x5 then (if ((rd_T40 x0 x5).f0) = x1 then (if ((rd_T40 x0 x5).f1) = (wrap64 (x1 + 1)) then (if ((rd_T40 x0 x5).f2) = (wrap64 ((wrap64 (x1 + 1)) + 1)) then ((laws_heldByteS.f k ((rd_T40 x0 x5).f3) (wrap64 ((wrap64 ((wrap64 (x1 + 1)) + 1)) + 1))).bind fun t166 => (if t166 < 0 then (some (-1)) else (laws_heldMailS.l0 k x0 t166 (wrap64 (x5 + 1))))) else (some (-1))) else (some (-1))) else (some (-1))) else (none)) else (some x1)
def laws_heldMailS.f (k : Nat) (l0 : List (S40)) (a1 : Int) : Option (Int) := laws_heldMailS.l0 k l0 a1 0
theorem laws_heldMailS.mono_l : ∀ k, (∀ y0 y1 y2, LeO (laws_heldMailS.l0 k y0 y1 y2) (laws_heldMailS.l0 (k + 1) y0 y1 y2))
 | 0 => fun _ _ _ r h => by simp [laws_heldMailS.l0] at h
 | k + 1 => by
  have ih0 := laws_heldMailS.mono_l k
  ·intro y0 y1 y2
   unfold laws_heldMailS.l0
   repeat' first
   | (with_reducible exact ih0 _ _ _)
   | (with_reducible exact laws_heldByteS.mono _ _ _)
   | (with_reducible exact LeO.refl _)
   | (with_reducible exact LeO.none _)
   | (with_reducible refine LeO.ite ?_ ?_)
   | (with_reducible refine LeO.bind ?_ (fun _ => ?_))
   | exact ih0 _ _ _
   | exact laws_heldByteS.mono _ _ _
   | exact LeO.none _
   | refine LeO.ite ?_ ?_
   | refine LeO.bind ?_ (fun _ => ?_)
theorem laws_heldMailS.mono : ∀ a0 a1 k, LeO (laws_heldMailS.f k a0 a1) (laws_heldMailS.f (k + 1) a0 a1) := by
 intro a0 a1 k
 have ih0 := laws_heldMailS.mono_l k
 unfold laws_heldMailS.f
 repeat' first
   | (with_reducible exact ih0 _ _ _)
   | (with_reducible exact laws_heldByteS.mono _ _ _)
   | (with_reducible exact LeO.refl _)
   | (with_reducible exact LeO.none _)
   | (with_reducible refine LeO.ite ?_ ?_)
   | (with_reducible refine LeO.bind ?_ (fun _ => ?_))
   | exact ih0 _ _ _
   | exact laws_heldByteS.mono _ _ _
   | exact LeO.none _
   | refine LeO.ite ?_ ?_
   | refine LeO.bind ?_ (fun _ => ?_)
set_option maxHeartbeats 8000000 in
set_option maxRecDepth 100000 in
theorem laws_heldMailS.calls (k : Nat) (A0 : Option Addr) (c0 : Nat) (l0 : List (S40)) (a1 : Int) (r : Int) (w : World) (hr0 : Kd.C k40 w A0 l0.length l0) (hc0 : l0.length ≤ c0) (h : laws_heldMailS.f k l0 a1 = some r) :
  Calls Try.prog 57 #[.slice A0 l0.length c0, .int .i64 a1] w fun e w' => e = .returned (.int .i64 r) ∧ Drawn0 w w' := by
 have HR0 := mk_ hr0
 have HC0 := mk_ hc0
 clear hr0 hc0
 have H : (laws_heldMailS.l0 k l0 a1 0) = some r := h
 clear h
 have H' := mk_ H
 clear H
 go_enter Try.func57, Try.ntmps57
 go_wp2
 go_loopg [1, 5] k (fun kq v1 v5 w' => ∃ (x1_1 : Int) (x5_1 : Int), v1 = .int .i64 x1_1 ∧ v5 = .int .i64 x5_1 ∧ Aside0 (laws_heldMailS.l0 kq l0 x1_1 x5_1 = some r) ∧ Aside0 (kq ≤ k) ∧ Drawn0 w w')
 case atStart => exact ⟨(a1), (0), (by first | rfl | (simp; done) | (simp [*]; done)), (by first | rfl | (simp; done) | (simp [*]; done)), H', ⟨Nat.le_refl _⟩, by repeat (first | exact Drawn0.refl _ | apply Drawn0.step)⟩
 case round =>
  clear H'
  try clear p2
  obtain ⟨x1_1, x5_1, rfl, rfl, HA, HK1, ⟨m1, rfl⟩⟩ := hrel
  cases gk with
  | zero => exact absurd HA.out (by simp [laws_heldMailS.l0])
  | succ k1 =>
   have H := HA.out
   clear HA
   simp only [laws_heldMailS.l0] at H
   by_cases c3 : x5_1 < (l0.length : Int)
   rotate_left
   ·rw [if_neg c3] at H
    have c3b0 : decide (x5_1 < (l0.length : Int)) = false := decide_eq_false c3
    clear c3
    obtain rfl := Option.some.inj H
    go_wp2
    go_ret
    exact ⟨by first | rfl | (simp; done) | (simp [*]; done), by repeat (first | exact Drawn0.refl _ | apply Drawn0.step)⟩
   rw [if_pos c3] at H
   have c3b0 : decide (x5_1 < (l0.length : Int)) = true := decide_eq_true c3
   clear c3
   by_cases c4 : 0 ≤ x5_1
   rotate_left
   ·rw [if_neg c4] at H
    exact absurd H (by simp)
   rw [if_pos c4] at H
   have c4b0 : decide (0 ≤ x5_1) = true := decide_eq_true c4
   clear c4
   by_cases c5 : ((rd_T40 l0 x5_1).f0) = x1_1
   rotate_left
   ·rw [if_neg c5] at H
    have c5b0 : (((rd_T40 l0 x5_1).f0) == x1_1) = false := beq_eq_false_iff_ne.mpr c5
    have c5b1 : (((rd_T40 l0 x5_1).f0) != x1_1) = true := bne_iff_ne.mpr c5
    obtain rfl := Option.some.inj H
    have p162 : 0 ≤ (x5_1 : Int) := of_decide_eq_true (by first | (with_reducible assumption) | assumption)
    have q162 : x5_1 < (l0.length : Int) := of_decide_eq_true (by first | (with_reducible assumption) | assumption)
    obtain ⟨ad162, A162_3, c162_3, e162, hx162_0, hx162_1, hx162_2, hx162_3, hl162_3, hi162_3⟩ := at_T40 HR0.out x5_1 p162 q162
    cases e162
    have HR162_3 := mk_ hi162_3
    have HC162_3 := mk_ hl162_3
    clear hi162_3 hl162_3
    replace p162 := eq_true p162
    replace q162 := eq_true q162
    go_wp2
    go_ret
    exact ⟨by first | rfl | (simp; done) | (simp [*]; done), by repeat (first | exact Drawn0.refl _ | apply Drawn0.step)⟩
   rw [if_pos c5] at H
   have c5b0 : (((rd_T40 l0 x5_1).f0) == x1_1) = true := beq_iff_eq.mpr c5
   have c5b1 : (((rd_T40 l0 x5_1).f0) != x1_1) = false := bne_eq_false_iff_eq.mpr c5
   clear c5
   by_cases c6 : ((rd_T40 l0 x5_1).f1) = (wrap64 (x1_1 + 1))
   rotate_left
   ·rw [if_neg c6] at H
    have c6b0 : (((rd_T40 l0 x5_1).f1) == (wrap64 (x1_1 + 1))) = false := beq_eq_false_iff_ne.mpr c6
    have c6b1 : (((rd_T40 l0 x5_1).f1) != (wrap64 (x1_1 + 1))) = true := bne_iff_ne.mpr c6
    obtain rfl := Option.some.inj H
    have p162 : 0 ≤ (x5_1 : Int) := of_decide_eq_true (by first | (with_reducible assumption) | assumption)
    have q162 : x5_1 < (l0.length : Int) := of_decide_eq_true (by first | (with_reducible assumption) | assumption)
    obtain ⟨ad162, A162_3, c162_3, e162, hx162_0, hx162_1, hx162_2, hx162_3, hl162_3, hi162_3⟩ := at_T40 HR0.out x5_1 p162 q162
    cases e162
    have HR162_3 := mk_ hi162_3
    have HC162_3 := mk_ hl162_3
    clear hi162_3 hl162_3
    replace p162 := eq_true p162
    replace q162 := eq_true q162
    have p163 : 0 ≤ (x5_1 : Int) := of_decide_eq_true (by first | (with_reducible assumption) | assumption)
    have q163 : x5_1 < (l0.length : Int) := of_decide_eq_true (by first | (with_reducible assumption) | assumption)
    obtain ⟨ad163, A163_3, c163_3, e163, hx163_0, hx163_1, hx163_2, hx163_3, hl163_3, hi163_3⟩ := at_T40 HR0.out x5_1 p163 q163
    obtain rfl : ad162 = ad163 := (by injection e163)
    have HR163_3 := mk_ hi163_3
    have HC163_3 := mk_ hl163_3
    clear hi163_3 hl163_3
    replace p163 := eq_true p163
    replace q163 := eq_true q163
    have ea_ := Option.some.inj (hx162_3.symm.trans hx163_3)
    injection ea_ with ea_ en_ ec_
    subst ea_
    subst ec_
    clear en_
    go_wp2
    go_ret
    exact ⟨by first | rfl | (simp; done) | (simp [*]; done), by repeat (first | exact Drawn0.refl _ | apply Drawn0.step)⟩
   rw [if_pos c6] at H
   have c6b0 : (((rd_T40 l0 x5_1).f1) == (wrap64 (x1_1 + 1))) = true := beq_iff_eq.mpr c6
   have c6b1 : (((rd_T40 l0 x5_1).f1) != (wrap64 (x1_1 + 1))) = false := bne_eq_false_iff_eq.mpr c6
   clear c6
   by_cases c7 : ((rd_T40 l0 x5_1).f2) = (wrap64 ((wrap64 (x1_1 + 1)) + 1))
   rotate_left
   ·rw [if_neg c7] at H
    have c7b0 : (((rd_T40 l0 x5_1).f2) == (wrap64 ((wrap64 (x1_1 + 1)) + 1))) = false := beq_eq_false_iff_ne.mpr c7
    have c7b1 : (((rd_T40 l0 x5_1).f2) != (wrap64 ((wrap64 (x1_1 + 1)) + 1))) = true := bne_iff_ne.mpr c7
    obtain rfl := Option.some.inj H
    have p162 : 0 ≤ (x5_1 : Int) := of_decide_eq_true (by first | (with_reducible assumption) | assumption)
    have q162 : x5_1 < (l0.length : Int) := of_decide_eq_true (by first | (with_reducible assumption) | assumption)
    obtain ⟨ad162, A162_3, c162_3, e162, hx162_0, hx162_1, hx162_2, hx162_3, hl162_3, hi162_3⟩ := at_T40 HR0.out x5_1 p162 q162
    cases e162
    have HR162_3 := mk_ hi162_3
    have HC162_3 := mk_ hl162_3
    clear hi162_3 hl162_3
    replace p162 := eq_true p162
    replace q162 := eq_true q162
    have p163 : 0 ≤ (x5_1 : Int) := of_decide_eq_true (by first | (with_reducible assumption) | assumption)
    have q163 : x5_1 < (l0.length : Int) := of_decide_eq_true (by first | (with_reducible assumption) | assumption)
    obtain ⟨ad163, A163_3, c163_3, e163, hx163_0, hx163_1, hx163_2, hx163_3, hl163_3, hi163_3⟩ := at_T40 HR0.out x5_1 p163 q163
    obtain rfl : ad162 = ad163 := (by injection e163)
    have HR163_3 := mk_ hi163_3
    have HC163_3 := mk_ hl163_3
    clear hi163_3 hl163_3
    replace p163 := eq_true p163
    replace q163 := eq_true q163
    have ea_ := Option.some.inj (hx162_3.symm.trans hx163_3)
    injection ea_ with ea_ en_ ec_
    subst ea_
    subst ec_
    clear en_
    have p164 : 0 ≤ (x5_1 : Int) := of_decide_eq_true (by first | (with_reducible assumption) | assumption)
    have q164 : x5_1 < (l0.length : Int) := of_decide_eq_true (by first | (with_reducible assumption) | assumption)
    obtain ⟨ad164, A164_3, c164_3, e164, hx164_0, hx164_1, hx164_2, hx164_3, hl164_3, hi164_3⟩ := at_T40 HR0.out x5_1 p164 q164
    obtain rfl : ad162 = ad164 := (by injection e164)
    have HR164_3 := mk_ hi164_3
    have HC164_3 := mk_ hl164_3
    clear hi164_3 hl164_3
    replace p164 := eq_true p164
    replace q164 := eq_true q164
    have ea_ := Option.some.inj (hx162_3.symm.trans hx164_3)
    injection ea_ with ea_ en_ ec_
    subst ea_
    subst ec_
    clear en_
    go_wp2
    go_ret
    exact ⟨by first | rfl | (simp; done) | (simp [*]; done), by repeat (first | exact Drawn0.refl _ | apply Drawn0.step)⟩
   rw [if_pos c7] at H
   have c7b0 : (((rd_T40 l0 x5_1).f2) == (wrap64 ((wrap64 (x1_1 + 1)) + 1))) = true := beq_iff_eq.mpr c7
   have c7b1 : (((rd_T40 l0 x5_1).f2) != (wrap64 ((wrap64 (x1_1 + 1)) + 1))) = false := bne_eq_false_iff_eq.mpr c7
   clear c7
   replace H := Option.bind_eq_some_iff.mp H
   obtain ⟨t166, A80, H⟩ := H
   replace H : (if t166 < 0 then (some (-1)) else (laws_heldMailS.l0 k1 l0 t166 (wrap64 (x5_1 + 1)))) = some r := H
   have A8 := mk_ A80
   clear A80
   by_cases c9 : t166 < 0
   ·rw [if_pos c9] at H
    have c9b0 : decide (t166 < 0) = true := decide_eq_true c9
    clear c9
    obtain rfl := Option.some.inj H
    have p162 : 0 ≤ (x5_1 : Int) := of_decide_eq_true (by first | (with_reducible assumption) | assumption)
    have q162 : x5_1 < (l0.length : Int) := of_decide_eq_true (by first | (with_reducible assumption) | assumption)
    obtain ⟨ad162, A162_3, c162_3, e162, hx162_0, hx162_1, hx162_2, hx162_3, hl162_3, hi162_3⟩ := at_T40 HR0.out x5_1 p162 q162
    cases e162
    have HR162_3 := mk_ hi162_3
    have HC162_3 := mk_ hl162_3
    clear hi162_3 hl162_3
    replace p162 := eq_true p162
    replace q162 := eq_true q162
    have p163 : 0 ≤ (x5_1 : Int) := of_decide_eq_true (by first | (with_reducible assumption) | assumption)
    have q163 : x5_1 < (l0.length : Int) := of_decide_eq_true (by first | (with_reducible assumption) | assumption)
    obtain ⟨ad163, A163_3, c163_3, e163, hx163_0, hx163_1, hx163_2, hx163_3, hl163_3, hi163_3⟩ := at_T40 HR0.out x5_1 p163 q163
    obtain rfl : ad162 = ad163 := (by injection e163)
    have HR163_3 := mk_ hi163_3
    have HC163_3 := mk_ hl163_3
    clear hi163_3 hl163_3
    replace p163 := eq_true p163
    replace q163 := eq_true q163
    have ea_ := Option.some.inj (hx162_3.symm.trans hx163_3)
    injection ea_ with ea_ en_ ec_
    subst ea_
    subst ec_
    clear en_
    have p164 : 0 ≤ (x5_1 : Int) := of_decide_eq_true (by first | (with_reducible assumption) | assumption)
    have q164 : x5_1 < (l0.length : Int) := of_decide_eq_true (by first | (with_reducible assumption) | assumption)
    obtain ⟨ad164, A164_3, c164_3, e164, hx164_0, hx164_1, hx164_2, hx164_3, hl164_3, hi164_3⟩ := at_T40 HR0.out x5_1 p164 q164
    obtain rfl : ad162 = ad164 := (by injection e164)
    have HR164_3 := mk_ hi164_3
    have HC164_3 := mk_ hl164_3
    clear hi164_3 hl164_3
    replace p164 := eq_true p164
    replace q164 := eq_true q164
    have ea_ := Option.some.inj (hx162_3.symm.trans hx164_3)
    injection ea_ with ea_ en_ ec_
    subst ea_
    subst ec_
    clear en_
    have p165 : 0 ≤ (x5_1 : Int) := of_decide_eq_true (by first | (with_reducible assumption) | assumption)
    have q165 : x5_1 < (l0.length : Int) := of_decide_eq_true (by first | (with_reducible assumption) | assumption)
    obtain ⟨ad165, A165_3, c165_3, e165, hx165_0, hx165_1, hx165_2, hx165_3, hl165_3, hi165_3⟩ := at_T40 HR0.out x5_1 p165 q165
    obtain rfl : ad162 = ad165 := (by injection e165)
    have HR165_3 := mk_ hi165_3
    have HC165_3 := mk_ hl165_3
    clear hi165_3 hl165_3
    replace p165 := eq_true p165
    replace q165 := eq_true q165
    have ea_ := Option.some.inj (hx162_3.symm.trans hx165_3)
    injection ea_ with ea_ en_ ec_
    subst ea_
    subst ec_
    clear en_
    go_wp2_with (first | ((with_reducible refine gate_callee (f := 61) rfl ?_); refine goesL_ (some 45) rfl rfl Try.func61 (by kernel_rfl) rfl #[.slice A162_3 ((rd_T40 l0 x5_1).f3).length c162_3, .int .i64 (wrap64 ((wrap64 ((wrap64 (x1_1 + 1)) + 1)) + 1))] rfl (by (try simp only [lm_, lo_, ln_]); try rfl) ?_; (with_reducible refine (laws_heldByteS.calls k1 _ _ ((rd_T40 l0 x5_1).f3) (wrap64 ((wrap64 ((wrap64 (x1_1 + 1)) + 1)) + 1)) t166 _ ?side1 ?side2 A8.out).mono ?_); (case side1 => repeat (first | exact HR165_3.out | (with_reducible refine Kd.C_alloc ?_ _) | (with_reducible refine Kd.C_drewN ?_ _) | (with_reducible refine Kd.C_drew ?_))); (case side2 => exact HC165_3.out); rintro e w' ⟨rfl, ⟨nd, rfl⟩⟩; refine ⟨_, rfl, ?_⟩))
    go_ret
    exact ⟨by first | rfl | (simp; done) | (simp [*]; done), by repeat (first | exact Drawn0.refl _ | apply Drawn0.step)⟩
   rw [if_neg c9] at H
   have c9b0 : decide (t166 < 0) = false := decide_eq_false c9
   clear c9
   have H' := mk_ H
   clear H
   have p162 : 0 ≤ (x5_1 : Int) := of_decide_eq_true (by first | (with_reducible assumption) | assumption)
   have q162 : x5_1 < (l0.length : Int) := of_decide_eq_true (by first | (with_reducible assumption) | assumption)
   obtain ⟨ad162, A162_3, c162_3, e162, hx162_0, hx162_1, hx162_2, hx162_3, hl162_3, hi162_3⟩ := at_T40 HR0.out x5_1 p162 q162
   cases e162
   have HR162_3 := mk_ hi162_3
   have HC162_3 := mk_ hl162_3
   clear hi162_3 hl162_3
   replace p162 := eq_true p162
   replace q162 := eq_true q162
   have p163 : 0 ≤ (x5_1 : Int) := of_decide_eq_true (by first | (with_reducible assumption) | assumption)
   have q163 : x5_1 < (l0.length : Int) := of_decide_eq_true (by first | (with_reducible assumption) | assumption)
   obtain ⟨ad163, A163_3, c163_3, e163, hx163_0, hx163_1, hx163_2, hx163_3, hl163_3, hi163_3⟩ := at_T40 HR0.out x5_1 p163 q163
   obtain rfl : ad162 = ad163 := (by injection e163)
   have HR163_3 := mk_ hi163_3
   have HC163_3 := mk_ hl163_3
   clear hi163_3 hl163_3
   replace p163 := eq_true p163
   replace q163 := eq_true q163
   have ea_ := Option.some.inj (hx162_3.symm.trans hx163_3)
   injection ea_ with ea_ en_ ec_
   subst ea_
   subst ec_
   clear en_
   have p164 : 0 ≤ (x5_1 : Int) := of_decide_eq_true (by first | (with_reducible assumption) | assumption)
   have q164 : x5_1 < (l0.length : Int) := of_decide_eq_true (by first | (with_reducible assumption) | assumption)
   obtain ⟨ad164, A164_3, c164_3, e164, hx164_0, hx164_1, hx164_2, hx164_3, hl164_3, hi164_3⟩ := at_T40 HR0.out x5_1 p164 q164
   obtain rfl : ad162 = ad164 := (by injection e164)
   have HR164_3 := mk_ hi164_3
   have HC164_3 := mk_ hl164_3
   clear hi164_3 hl164_3
   replace p164 := eq_true p164
   replace q164 := eq_true q164
   have ea_ := Option.some.inj (hx162_3.symm.trans hx164_3)
   injection ea_ with ea_ en_ ec_
   subst ea_
   subst ec_
   clear en_
   have p165 : 0 ≤ (x5_1 : Int) := of_decide_eq_true (by first | (with_reducible assumption) | assumption)
   have q165 : x5_1 < (l0.length : Int) := of_decide_eq_true (by first | (with_reducible assumption) | assumption)
   obtain ⟨ad165, A165_3, c165_3, e165, hx165_0, hx165_1, hx165_2, hx165_3, hl165_3, hi165_3⟩ := at_T40 HR0.out x5_1 p165 q165
   obtain rfl : ad162 = ad165 := (by injection e165)
   have HR165_3 := mk_ hi165_3
   have HC165_3 := mk_ hl165_3
   clear hi165_3 hl165_3
   replace p165 := eq_true p165
   replace q165 := eq_true q165
   have ea_ := Option.some.inj (hx162_3.symm.trans hx165_3)
   injection ea_ with ea_ en_ ec_
   subst ea_
   subst ec_
   clear en_
   go_wp2_with (first | ((with_reducible refine gate_callee (f := 61) rfl ?_); refine goesL_ (some 45) rfl rfl Try.func61 (by kernel_rfl) rfl #[.slice A162_3 ((rd_T40 l0 x5_1).f3).length c162_3, .int .i64 (wrap64 ((wrap64 ((wrap64 (x1_1 + 1)) + 1)) + 1))] rfl (by (try simp only [lm_, lo_, ln_]); try rfl) ?_; (with_reducible refine (laws_heldByteS.calls k1 _ _ ((rd_T40 l0 x5_1).f3) (wrap64 ((wrap64 ((wrap64 (x1_1 + 1)) + 1)) + 1)) t166 _ ?side1 ?side2 A8.out).mono ?_); (case side1 => repeat (first | exact HR165_3.out | (with_reducible refine Kd.C_alloc ?_ _) | (with_reducible refine Kd.C_drewN ?_ _) | (with_reducible refine Kd.C_drew ?_))); (case side2 => exact HC165_3.out); rintro e w' ⟨rfl, ⟨nd, rfl⟩⟩; refine ⟨_, rfl, ?_⟩))
   go_roundg k1
   case measure => have := HK1.out; omega
   case rel => exact ⟨(t166), (wrap64 (x5_1 + 1)), (by first | rfl | (simp; done) | (simp [*]; done)), (by first | rfl | (simp; done) | (simp [*]; done)), H', ⟨by have := HK1.out; omega⟩, by repeat (first | exact Drawn0.refl _ | apply Drawn0.step)⟩

/-! ### laws_heldPortS: function 21 -/
def laws_heldPortS.l0 : Nat → List (S47) → Int → Int → Option (Int)
 | 0, _, _, _ => none
 | k + 1, x0, x1, x5 => if x5 < (x0.length : Int) then (if 0 ≤ x5 then (if ((rd_T47 x0 x5).f0) = x1 then ((laws_heldMailS.f k ((rd_T47 x0 x5).f1) (wrap64 (x1 + 1))).bind fun t169 => (if t169 < 0 then (some (-1)) else (laws_heldPortS.l0 k x0 t169 (wrap64 (x5 + 1))))) else (some (-1))) else (none)) else (some x1)
def laws_heldPortS.f (k : Nat) (l0 : List (S47)) (a1 : Int) : Option (Int) := laws_heldPortS.l0 k l0 a1 0
theorem laws_heldPortS.mono_l : ∀ k, (∀ y0 y1 y2, LeO (laws_heldPortS.l0 k y0 y1 y2) (laws_heldPortS.l0 (k + 1) y0 y1 y2))
 | 0 => fun _ _ _ r h => by simp [laws_heldPortS.l0] at h
 | k + 1 => by
  have ih0 := laws_heldPortS.mono_l k
  ·intro y0 y1 y2
   unfold laws_heldPortS.l0
   repeat' first
   | (with_reducible exact ih0 _ _ _)
   | (with_reducible exact laws_heldMailS.mono _ _ _)
   | (with_reducible exact LeO.refl _)
   | (with_reducible exact LeO.none _)
   | (with_reducible refine LeO.ite ?_ ?_)
   | (with_reducible refine LeO.bind ?_ (fun _ => ?_))
   | exact ih0 _ _ _
   | exact laws_heldMailS.mono _ _ _
   | exact LeO.none _
   | refine LeO.ite ?_ ?_
   | refine LeO.bind ?_ (fun _ => ?_)
theorem laws_heldPortS.mono : ∀ a0 a1 k, LeO (laws_heldPortS.f k a0 a1) (laws_heldPortS.f (k + 1) a0 a1) := by
 intro a0 a1 k
 have ih0 := laws_heldPortS.mono_l k
 unfold laws_heldPortS.f
 repeat' first
   | (with_reducible exact ih0 _ _ _)
   | (with_reducible exact laws_heldMailS.mono _ _ _)
   | (with_reducible exact LeO.refl _)
   | (with_reducible exact LeO.none _)
   | (with_reducible refine LeO.ite ?_ ?_)
   | (with_reducible refine LeO.bind ?_ (fun _ => ?_))
   | exact ih0 _ _ _
   | exact laws_heldMailS.mono _ _ _
   | exact LeO.none _
   | refine LeO.ite ?_ ?_
   | refine LeO.bind ?_ (fun _ => ?_)
set_option maxHeartbeats 8000000 in
set_option maxRecDepth 100000 in
theorem laws_heldPortS.calls (k : Nat) (A0 : Option Addr) (c0 : Nat) (l0 : List (S47)) (a1 : Int) (r : Int) (w : World) (hr0 : Kd.C k47 w A0 l0.length l0) (hc0 : l0.length ≤ c0) (h : laws_heldPortS.f k l0 a1 = some r) :
  Calls Try.prog 21 #[.slice A0 l0.length c0, .int .i64 a1] w fun e w' => e = .returned (.int .i64 r) ∧ Drawn0 w w' := by
 have HR0 := mk_ hr0
 have HC0 := mk_ hc0
 clear hr0 hc0
 have H : (laws_heldPortS.l0 k l0 a1 0) = some r := h
 clear h
 have H' := mk_ H
 clear H
 go_enter Try.func21, Try.ntmps21
 go_wp2
 go_loopg [1, 5] k (fun kq v1 v5 w' => ∃ (x1_1 : Int) (x5_1 : Int), v1 = .int .i64 x1_1 ∧ v5 = .int .i64 x5_1 ∧ Aside0 (laws_heldPortS.l0 kq l0 x1_1 x5_1 = some r) ∧ Aside0 (kq ≤ k) ∧ Drawn0 w w')
 case atStart => exact ⟨(a1), (0), (by first | rfl | (simp; done) | (simp [*]; done)), (by first | rfl | (simp; done) | (simp [*]; done)), H', ⟨Nat.le_refl _⟩, by repeat (first | exact Drawn0.refl _ | apply Drawn0.step)⟩
 case round =>
  clear H'
  try clear c2
  try clear p2
  obtain ⟨x1_1, x5_1, rfl, rfl, HA, HK1, ⟨m1, rfl⟩⟩ := hrel
  cases gk with
  | zero => exact absurd HA.out (by simp [laws_heldPortS.l0])
  | succ k1 =>
   have H := HA.out
   clear HA
   simp only [laws_heldPortS.l0] at H
   by_cases c3 : x5_1 < (l0.length : Int)
   rotate_left
   focus
    rw [if_neg c3] at H
    have c3b0 : decide (x5_1 < (l0.length : Int)) = false := decide_eq_false c3
    clear c3
    obtain rfl := Option.some.inj H
   rotate_left
   focus
    rw [if_pos c3] at H
    have c3b0 : decide (x5_1 < (l0.length : Int)) = true := decide_eq_true c3
    clear c3
    by_cases c4 : 0 ≤ x5_1
    rotate_left
    ·rw [if_neg c4] at H
     exact absurd H (by simp)
    rw [if_pos c4] at H
    have c4b0 : decide (0 ≤ x5_1) = true := decide_eq_true c4
    clear c4
    by_cases c5 : ((rd_T47 l0 x5_1).f0) = x1_1
    rotate_left
    focus
     rw [if_neg c5] at H
     have c5b0 : (((rd_T47 l0 x5_1).f0) == x1_1) = false := beq_eq_false_iff_ne.mpr c5
     have c5b1 : (((rd_T47 l0 x5_1).f0) != x1_1) = true := bne_iff_ne.mpr c5
     obtain rfl := Option.some.inj H
     have p167 : 0 ≤ (x5_1 : Int) := of_decide_eq_true (by first | (with_reducible assumption) | assumption)
     have q167 : x5_1 < (l0.length : Int) := of_decide_eq_true (by first | (with_reducible assumption) | assumption)
     obtain ⟨ad167, A167_1, c167_1, e167, hx167_0, hx167_1, hl167_1, hi167_1⟩ := at_T47 HR0.out x5_1 p167 q167
     cases e167
     have HR167_1 := mk_ hi167_1
     have HC167_1 := mk_ hl167_1
     clear hi167_1 hl167_1
     replace p167 := eq_true p167
     replace q167 := eq_true q167
    rotate_left
    focus
     rw [if_pos c5] at H
     have c5b0 : (((rd_T47 l0 x5_1).f0) == x1_1) = true := beq_iff_eq.mpr c5
     have c5b1 : (((rd_T47 l0 x5_1).f0) != x1_1) = false := bne_eq_false_iff_eq.mpr c5
     clear c5
     replace H := Option.bind_eq_some_iff.mp H
     obtain ⟨t169, A60, H⟩ := H
     replace H : (if t169 < 0 then (some (-1)) else (laws_heldPortS.l0 k1 l0 t169 (wrap64 (x5_1 + 1)))) = some r := H
     have A6 := mk_ A60
     clear A60
     by_cases c7 : t169 < 0
     focus
      rw [if_pos c7] at H
      have c7b0 : decide (t169 < 0) = true := decide_eq_true c7
      clear c7
      obtain rfl := Option.some.inj H
      have p167 : 0 ≤ (x5_1 : Int) := of_decide_eq_true (by first | (with_reducible assumption) | assumption)
      have q167 : x5_1 < (l0.length : Int) := of_decide_eq_true (by first | (with_reducible assumption) | assumption)
      obtain ⟨ad167, A167_1, c167_1, e167, hx167_0, hx167_1, hl167_1, hi167_1⟩ := at_T47 HR0.out x5_1 p167 q167
      cases e167
      have HR167_1 := mk_ hi167_1
      have HC167_1 := mk_ hl167_1
      clear hi167_1 hl167_1
      replace p167 := eq_true p167
      replace q167 := eq_true q167
      have p168 : 0 ≤ (x5_1 : Int) := of_decide_eq_true (by first | (with_reducible assumption) | assumption)
      have q168 : x5_1 < (l0.length : Int) := of_decide_eq_true (by first | (with_reducible assumption) | assumption)
      obtain ⟨ad168, A168_1, c168_1, e168, hx168_0, hx168_1, hl168_1, hi168_1⟩ := at_T47 HR0.out x5_1 p168 q168
      obtain rfl : ad167 = ad168 := (by injection e168)
      have HR168_1 := mk_ hi168_1
      have HC168_1 := mk_ hl168_1
      clear hi168_1 hl168_1
      replace p168 := eq_true p168
      replace q168 := eq_true q168
      have ea_ := Option.some.inj (hx167_1.symm.trans hx168_1)
      injection ea_ with ea_ en_ ec_
      subst ea_
      subst ec_
      clear en_
     rotate_left
     focus
      rw [if_neg c7] at H
      have c7b0 : decide (t169 < 0) = false := decide_eq_false c7
      clear c7
      have H' := mk_ H
      clear H
      have p167 : 0 ≤ (x5_1 : Int) := of_decide_eq_true (by first | (with_reducible assumption) | assumption)
      have q167 : x5_1 < (l0.length : Int) := of_decide_eq_true (by first | (with_reducible assumption) | assumption)
      obtain ⟨ad167, A167_1, c167_1, e167, hx167_0, hx167_1, hl167_1, hi167_1⟩ := at_T47 HR0.out x5_1 p167 q167
      cases e167
      have HR167_1 := mk_ hi167_1
      have HC167_1 := mk_ hl167_1
      clear hi167_1 hl167_1
      replace p167 := eq_true p167
      replace q167 := eq_true q167
      have p168 : 0 ≤ (x5_1 : Int) := of_decide_eq_true (by first | (with_reducible assumption) | assumption)
      have q168 : x5_1 < (l0.length : Int) := of_decide_eq_true (by first | (with_reducible assumption) | assumption)
      obtain ⟨ad168, A168_1, c168_1, e168, hx168_0, hx168_1, hl168_1, hi168_1⟩ := at_T47 HR0.out x5_1 p168 q168
      obtain rfl : ad167 = ad168 := (by injection e168)
      have HR168_1 := mk_ hi168_1
      have HC168_1 := mk_ hl168_1
      clear hi168_1 hl168_1
      replace p168 := eq_true p168
      replace q168 := eq_true q168
      have ea_ := Option.some.inj (hx167_1.symm.trans hx168_1)
      injection ea_ with ea_ en_ ec_
      subst ea_
      subst ec_
      clear en_
     rotate_left
    rotate_left 2
   rotate_left 3
   all_goals
    go_wp2_with (first | ((with_reducible refine gate_callee (f := 57) rfl ?_); refine goesL_ (some 27) rfl rfl Try.func57 (by kernel_rfl) rfl #[.slice A167_1 ((rd_T47 l0 x5_1).f1).length c167_1, .int .i64 (wrap64 (x1_1 + 1))] rfl (by (try simp only [lm_, lo_, ln_]); try rfl) ?_; (with_reducible refine (laws_heldMailS.calls k1 _ _ ((rd_T47 l0 x5_1).f1) (wrap64 (x1_1 + 1)) t169 _ ?side1 ?side2 A6.out).mono ?_); (case side1 => repeat (first | exact HR168_1.out | (with_reducible refine Kd.C_alloc ?_ _) | (with_reducible refine Kd.C_drewN ?_ _) | (with_reducible refine Kd.C_drew ?_))); (case side2 => exact HC168_1.out); rintro e w' ⟨rfl, ⟨nd, rfl⟩⟩; refine ⟨_, rfl, ?_⟩))
   iterate 3
    focus
     go_ret
     exact ⟨by first | rfl | (simp; done) | (simp [*]; done), by repeat (first | exact Drawn0.refl _ | apply Drawn0.step)⟩
   ·go_roundg k1
    case measure => have := HK1.out; omega
    case rel => exact ⟨(t169), (wrap64 (x5_1 + 1)), (by first | rfl | (simp; done) | (simp [*]; done)), (by first | rfl | (simp; done) | (simp [*]; done)), H', ⟨by have := HK1.out; omega⟩, by repeat (first | exact Drawn0.refl _ | apply Drawn0.step)⟩

/-! ### laws_szPacket: function 31 -/
def laws_szPacket.f (a0_0 : Int) (a0_1 : Int) (a0_2 : Int) (a0_3 : Int) (a0_4 : Int) (a0_5 : Int) (a0_6 : Bool) (a0_7 : Bool) (l0_8 : List Int) (a1 : Int) : Option (Int) := (laws_szByteS.f l0_8 a1).bind fun t171 => (if t171 < 0 then (some (-1)) else (some t171))
set_option maxHeartbeats 8000000 in
set_option maxRecDepth 100000 in
theorem laws_szPacket.calls (a0_0 : Int) (a0_1 : Int) (a0_2 : Int) (a0_3 : Int) (a0_4 : Int) (a0_5 : Int) (a0_6 : Bool) (a0_7 : Bool) (A0_8 : Option Addr) (c0_8 : Nat) (l0_8 : List Int) (a1 : Int) (r : Int) (w : World) (hr0_8 : Kd.C (Kd.int .u8) w A0_8 l0_8.length l0_8) (hc0_8 : l0_8.length ≤ c0_8) (h : laws_szPacket.f a0_0 a0_1 a0_2 a0_3 a0_4 a0_5 a0_6 a0_7 l0_8 a1 = some r) :
  Calls Try.prog 31 #[.agg #[.int .i64 a0_0, .int .i64 a0_1, .int .i64 a0_2, .int .i64 a0_3, .int .i64 a0_4, .int .i64 a0_5, .bool a0_6, .bool a0_7, .slice A0_8 l0_8.length c0_8], .int .i64 a1] w fun e w' => e = .returned (.int .i64 r) ∧ Below w.heap.size w w' := by
 have hu49 := Try.underlying49
 have HR0_8 := mk_ hr0_8
 have HC0_8 := mk_ hc0_8
 clear hr0_8 hc0_8
 have HB := mk_ (Below.refl w.heap.size w)
 have H := h
 unfold laws_szPacket.f at H
 clear h
 replace H := Option.bind_eq_some_iff.mp H
 obtain ⟨t171, A30, H⟩ := H
 replace H : (if t171 < 0 then (some (-1)) else (some t171)) = some r := H
 have A3 := mk_ A30
 clear A30
 by_cases c4 : t171 < 0
 focus
  rw [if_pos c4] at H
  have c4b0 : decide (t171 < 0) = true := decide_eq_true c4
  clear c4
  obtain rfl := Option.some.inj H
 rotate_left
 focus
  rw [if_neg c4] at H
  have c4b0 : decide (t171 < 0) = false := decide_eq_false c4
  clear c4
  obtain rfl := Option.some.inj H
 rotate_left
 all_goals
  go_enter Try.func31, Try.ntmps31
  go_wp2_with (first | ((with_reducible refine gate_dst (N := 2) rfl ?_); refine box_event ?hg (N := 2) ?hd (cs := #[.int .i64 a0_0, .int .i64 a0_1, .int .i64 a0_2, .int .i64 a0_3, .int .i64 a0_4, .int .i64 a0_5, .bool a0_6, .bool a0_7, .slice A0_8 l0_8.length c0_8]) (t := 49) ?hr ?_; (case hd => rfl); (case hg => rfl); (case hr => first | (go_simp; done) | (go_simp; rfl)); intro gb1200 hg w1201 hbox hb; have n0_ := mk_ (below_step (ub_ HB.out) hb); have BK170 := mk_ (hbox); have GW170 := mk_ ((by rw [hg]; exact (below_size (ub_ HB.out)) : w.heap.size ≤ gb1200)); have GE170 := ge_ ((by rw [hg]; exact (below_size (ub_ HB.out)) : w.heap.size ≤ gb1200)); replace HB := n0_; clear n0_; clear hb hbox hg; obtain ⟨_, _, _, _, _, _, _, _, _, _, _, _, _, _, _, _, _, _⟩ := cells9_ BK170.out) | ((with_reducible refine gate_callee (f := 63) rfl ?_); refine goesL_ (some 8) rfl rfl Try.func63 (by kernel_rfl) rfl #[.slice A0_8 l0_8.length c0_8, .int .i64 a1] rfl (by (try simp only [lm_, lo_, ln_]); try rfl) ?_; (with_reducible refine (laws_szByteS.calls _ _ l0_8 a1 t171 _ ?side1 ?side2 A3.out).mono ?_); (case side1 => repeat (first | exact (Kd.C_below HR0_8.out HB.out) | (with_reducible refine Kd.C_alloc ?_ _) | (with_reducible refine Kd.C_drewN ?_ _) | (with_reducible refine Kd.C_drew ?_))); (case side2 => exact HC0_8.out); rintro e w' ⟨rfl, ⟨nd, rfl⟩⟩; refine ⟨_, rfl, ?_⟩))
  go_ret
  exact ⟨by first | rfl | (simp [errW_none, errW_some] <;> rfl) | (simp [*, errW_none, errW_some] <;> rfl), us_ HB.out⟩

/-! ### spec_l1In: function 40 -/
def spec_l1In.f (a0 : Int) (a1 : Int) (a2 : Int) : Option (Bool) := if a0 ≥ a1 then (some (decide (a0 ≤ a2))) else (some false)
set_option maxHeartbeats 8000000 in
set_option maxRecDepth 100000 in
theorem spec_l1In.calls (a0 : Int) (a1 : Int) (a2 : Int) (r : Bool) (w : World) (h : spec_l1In.f a0 a1 a2 = some r) :
  Calls Try.prog 40 #[.int .i64 a0, .int .i64 a1, .int .i64 a2] w fun e w' => e = .returned (.bool r) ∧ Drawn0 w w' := by
 have H : (if a0 ≥ a1 then (some (decide (a0 ≤ a2))) else (some false)) = some r := h
 clear h
 by_cases c4 : a0 ≥ a1
 focus
  rw [if_pos c4] at H
  have c4b0 : decide (a1 ≤ a0) = true := decide_eq_true c4
  clear c4
  obtain rfl := Option.some.inj H
 rotate_left
 focus
  rw [if_neg c4] at H
  have c4b0 : decide (a1 ≤ a0) = false := decide_eq_false c4
  clear c4
  obtain rfl := Option.some.inj H
 rotate_left
 all_goals
  go_enter Try.func40, Try.ntmps40
  go_wp2
  go_ret
  exact ⟨by first | rfl | (simp; done) | (simp [*]; done), by repeat (first | exact Drawn0.refl _ | apply Drawn0.step)⟩

/-! ### spec_MailOk: function 41 -/
def spec_MailOk.f (a0_0 : Int) (a0_1 : Int) (a0_2 : Int) (l0_3 : List Int) : Option (Bool) := (spec_l1In.f a0_0 0 65535).bind fun t173 => (if t173 = true then ((spec_l1In.f a0_1 1 255).bind fun t174 => (if t174 = true then ((spec_l1In.f a0_2 1 255).bind fun t175 => (if t175 = true then (some (decide ((l0_3.length : Int) ≤ 40))) else (some false))) else (some false))) else (some false))
set_option maxHeartbeats 8000000 in
set_option maxRecDepth 100000 in
theorem spec_MailOk.calls (a0_0 : Int) (a0_1 : Int) (a0_2 : Int) (A0_3 : Option Addr) (c0_3 : Nat) (l0_3 : List Int) (r : Bool) (w : World) (hr0_3 : Kd.C (Kd.int .u8) w A0_3 l0_3.length l0_3) (hc0_3 : l0_3.length ≤ c0_3) (h : spec_MailOk.f a0_0 a0_1 a0_2 l0_3 = some r) :
  Calls Try.prog 41 #[.agg #[.int .i64 a0_0, .int .i64 a0_1, .int .i64 a0_2, .slice A0_3 l0_3.length c0_3]] w fun e w' => e = .returned (.bool r) ∧ Below w.heap.size w w' := by
 have hu40 := Try.underlying40
 have HR0_3 := mk_ hr0_3
 have HC0_3 := mk_ hc0_3
 clear hr0_3 hc0_3
 have HB := mk_ (Below.refl w.heap.size w)
 have H := h
 unfold spec_MailOk.f at H
 clear h
 replace H := Option.bind_eq_some_iff.mp H
 obtain ⟨t173, A20, H⟩ := H
 (try dsimp only at H)
 have A2 := mk_ A20
 clear A20
 by_cases c3 : t173 = true
 rotate_left
 focus
  replace c3 := Bool.eq_false_iff.mpr c3
  subst c3
  have H1 : (some false) = some r := by rw [if_neg (show ¬ (false = true) by decide)] at H; exact H
  clear H
  have H := H1
  clear H1
  obtain rfl := Option.some.inj H
 rotate_left
 focus
  subst c3
  rw [if_pos rfl] at H
  replace H := Option.bind_eq_some_iff.mp H
  obtain ⟨t174, A40, H⟩ := H
  (try dsimp only at H)
  have A4 := mk_ A40
  clear A40
  by_cases c5 : t174 = true
  rotate_left
  focus
   replace c5 := Bool.eq_false_iff.mpr c5
   subst c5
   have H1 : (some false) = some r := by rw [if_neg (show ¬ (false = true) by decide)] at H; exact H
   clear H
   have H := H1
   clear H1
   obtain rfl := Option.some.inj H
  rotate_left
  focus
   subst c5
   rw [if_pos rfl] at H
   replace H := Option.bind_eq_some_iff.mp H
   obtain ⟨t175, A60, H⟩ := H
   replace H : (if t175 = true then (some (decide ((l0_3.length : Int) ≤ 40))) else (some false)) = some r := H
   have A6 := mk_ A60
   clear A60
   by_cases c7 : t175 = true
   focus
    subst c7
    have H1 : (some (decide ((l0_3.length : Int) ≤ 40))) = some r := by rw [if_pos rfl] at H; exact H
    clear H
    have H := H1
    clear H1
    obtain rfl := Option.some.inj H
   rotate_left
   focus
    replace c7 := Bool.eq_false_iff.mpr c7
    subst c7
    have H1 : (some false) = some r := by rw [if_neg (show ¬ (false = true) by decide)] at H; exact H
    clear H
    have H := H1
    clear H1
    obtain rfl := Option.some.inj H
   rotate_left
  rotate_left 2
 rotate_left 3
 all_goals
  go_enter Try.func41, Try.ntmps41
  go_wp2_with (first | ((with_reducible refine gate_dst (N := 1) rfl ?_); refine box_event ?hg (N := 1) ?hd (cs := #[.int .i64 a0_0, .int .i64 a0_1, .int .i64 a0_2, .slice A0_3 l0_3.length c0_3]) (t := 40) ?hr ?_; (case hd => rfl); (case hg => rfl); (case hr => first | (go_simp; done) | (go_simp; rfl)); intro gb9800 hg w9801 hbox hb; have n0_ := mk_ (below_step (ub_ HB.out) hb); have BK172 := mk_ (hbox); have GW172 := mk_ ((by rw [hg]; exact (below_size (ub_ HB.out)) : w.heap.size ≤ gb9800)); have GE172 := ge_ ((by rw [hg]; exact (below_size (ub_ HB.out)) : w.heap.size ≤ gb9800)); replace HB := n0_; clear n0_; clear hb hbox hg; obtain ⟨_, _, _, _, _, _, _, _⟩ := cells4_ BK172.out) | ((with_reducible refine gate_callee (f := 40) rfl ?_); refine goesL_ (some 5) rfl rfl Try.func40 (by kernel_rfl) rfl #[.int .i64 a0_0, .int .i64 0, .int .i64 65535] rfl (by (try simp only [lm_, lo_, ln_]); try rfl) ?_; (with_reducible refine (spec_l1In.calls a0_0 0 65535 false _ A2.out).mono ?_); rintro e w' ⟨rfl, ⟨nd, rfl⟩⟩; refine ⟨_, rfl, ?_⟩) | ((with_reducible refine gate_callee (f := 40) rfl ?_); have hA_ := A2.out; refine goesL_ (some 5) rfl rfl Try.func40 (by kernel_rfl) rfl #[.int .i64 a0_0, .int .i64 0, .int .i64 65535] rfl (by (try simp only [lm_, lo_, ln_]); try rfl) ?_; (with_reducible refine (spec_l1In.calls a0_0 0 65535 true _ A2.out).mono ?_); rintro e w' ⟨rfl, ⟨nd, rfl⟩⟩; refine ⟨_, rfl, ?_⟩; clear hA_ A2) | (go_at_call 40; have hA_ := A4.out; (with_reducible refine (spec_l1In.calls a0_1 1 255 false _ A4.out).mono ?_); rintro e w' ⟨rfl, ⟨nd, rfl⟩⟩; clear hA_ A4) | (go_at_call 40; have hA_ := A4.out; (with_reducible refine (spec_l1In.calls a0_1 1 255 true _ A4.out).mono ?_); rintro e w' ⟨rfl, ⟨nd, rfl⟩⟩; clear hA_ A4) | (go_at_call 40; have hA_ := A6.out; (with_reducible refine (spec_l1In.calls a0_2 1 255 true _ A6.out).mono ?_); rintro e w' ⟨rfl, ⟨nd, rfl⟩⟩; clear hA_ A6) | (go_at_call 40; have hA_ := A6.out; (with_reducible refine (spec_l1In.calls a0_2 1 255 false _ A6.out).mono ?_); rintro e w' ⟨rfl, ⟨nd, rfl⟩⟩; clear hA_ A6))
  go_ret
  exact ⟨by first | rfl | (simp [errW_none, errW_some] <;> rfl) | (simp [*, errW_none, errW_some] <;> rfl), us_ HB.out⟩

end Go.Proofs.Ytkkibccnpkbbjaa.MFnExactPortHear
