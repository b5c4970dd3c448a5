/- Functions that the law FnExactNoteEchoed reaches, each with the proof that the machine's call comes to just its answer; no conditions but those that each theorem states. Printed by a program of this session over the kit's print. -/
import Derived.Test.YtgfaamcihlojdagMFnExactNoteEchoedx0
namespace Go.Proofs.Ytgfaamcihlojdag.MFnExactNoteEchoed
open Go.RowKit Go.Proofs.YtgfaamcihlojdagV.PrintWords Go.Proofs.YtgfaamcihlojdagV.PrintLast Go.Proofs.YtgfaamcihlojdagV.PrintMore
attribute [local go_sem] max2_int min2_int max_two min_two max_three min_three max_four min_four   -- for this text's walks alone
set_option linter.unusedVariables false
set_option linter.unusedSimpArgs false

/-! ### laws_szByteS: function 60 -/
def laws_szByteS.f (l0 : List Int) (a1 : Int) : Option (Int) := if (wrap64 (a1 - (l0.length : Int))) < 0 then (some (-1)) else (some (wrap64 (a1 - (l0.length : Int))))
set_option maxHeartbeats 8000000 in
set_option maxRecDepth 100000 in
theorem laws_szByteS.calls (A0 : Option Addr) (c0 : Nat) (l0 : List Int) (a1 : Int) (r : Int) (w : World) (hr0 : Kd.C (Kd.int .u8) w A0 l0.length l0) (hc0 : l0.length ≤ c0) (h : laws_szByteS.f l0 a1 = some r) :
  Calls Try.prog 60 #[.slice A0 l0.length c0, .int .i64 a1] w fun e w' => e = .returned (.int .i64 r) ∧ Drawn0 w w' := by
 have HR0 := mk_ hr0
 have HC0 := mk_ hc0
 clear hr0 hc0
 have H : (if (wrap64 (a1 - (l0.length : Int))) < 0 then (some (-1)) else (some (wrap64 (a1 - (l0.length : Int))))) = some r := h
 clear h
 by_cases c3 : (wrap64 (a1 - (l0.length : Int))) < 0
 ·rw [if_pos c3] at H
  have c3b0 : decide ((wrap64 (a1 - (l0.length : Int))) < 0) = true := decide_eq_true c3
  clear c3
  obtain rfl := Option.some.inj H
  go_enter Try.func60, Try.ntmps60
  go_wp2
  go_ret
  exact ⟨by first | rfl | (simp; done) | (simp [*]; done), by repeat (first | exact Drawn0.refl _ | apply Drawn0.step)⟩
 rw [if_neg c3] at H
 have c3b0 : decide ((wrap64 (a1 - (l0.length : Int))) < 0) = false := decide_eq_false c3
 clear c3
 obtain rfl := Option.some.inj H
 go_enter Try.func60, Try.ntmps60
 go_wp2
 go_ret
 exact ⟨by first | rfl | (simp; done) | (simp [*]; done), by repeat (first | exact Drawn0.refl _ | apply Drawn0.step)⟩

/-! ### laws_szPacket: function 22 -/
def laws_szPacket.f (a0_0 : Int) (a0_1 : Int) (a0_2 : Int) (a0_3 : Int) (a0_4 : Int) (a0_5 : Int) (a0_6 : Bool) (a0_7 : Bool) (l0_8 : List Int) (a1 : Int) : Option (Int) := (laws_szByteS.f l0_8 a1).bind fun t102 => (if t102 < 0 then (some (-1)) else (some t102))
set_option maxHeartbeats 8000000 in
set_option maxRecDepth 100000 in
theorem laws_szPacket.calls (a0_0 : Int) (a0_1 : Int) (a0_2 : Int) (a0_3 : Int) (a0_4 : Int) (a0_5 : Int) (a0_6 : Bool) (a0_7 : Bool) (A0_8 : Option Addr) (c0_8 : Nat) (l0_8 : List Int) (a1 : Int) (r : Int) (w : World) (hr0_8 : Kd.C (Kd.int .u8) w A0_8 l0_8.length l0_8) (hc0_8 : l0_8.length ≤ c0_8) (h : laws_szPacket.f a0_0 a0_1 a0_2 a0_3 a0_4 a0_5 a0_6 a0_7 l0_8 a1 = some r) :
  Calls Try.prog 22 #[.agg #[.int .i64 a0_0, .int .i64 a0_1, .int .i64 a0_2, .int .i64 a0_3, .int .i64 a0_4, .int .i64 a0_5, .bool a0_6, .bool a0_7, .slice A0_8 l0_8.length c0_8], .int .i64 a1] w fun e w' => e = .returned (.int .i64 r) ∧ Below w.heap.size w w' := by
 have hu41 := Try.underlying41
 have HR0_8 := mk_ hr0_8
 have HC0_8 := mk_ hc0_8
 clear hr0_8 hc0_8
 have HB := mk_ (Below.refl w.heap.size w)
 have H : ((laws_szByteS.f l0_8 a1).bind fun t102 => (if t102 < 0 then (some (-1)) else (some t102))) = some r := h
 clear h
 replace H := Option.bind_eq_some_iff.mp H
 obtain ⟨t102, A30, H⟩ := H
 replace H : (if t102 < 0 then (some (-1)) else (some t102)) = some r := H
 have A3 := mk_ A30
 clear A30
 by_cases c4 : t102 < 0
 ·rw [if_pos c4] at H
  have c4b0 : decide (t102 < 0) = true := decide_eq_true c4
  clear c4
  obtain rfl := Option.some.inj H
  go_enter Try.func22, Try.ntmps22
  go_wp2_with (first | ((with_reducible refine gate_dst (N := 2) rfl ?_); refine box_event ?hg (N := 2) ?hd (cs := #[.int .i64 a0_0, .int .i64 a0_1, .int .i64 a0_2, .int .i64 a0_3, .int .i64 a0_4, .int .i64 a0_5, .bool a0_6, .bool a0_7, .slice A0_8 l0_8.length c0_8]) (t := 41) ?hr ?_; (case hd => rfl); (case hg => rfl); (case hr => first | (go_simp; done) | (go_simp; rfl)); intro gb101 hg w5 hbox hb; have n0_ := mk_ (below_step (ub_ HB.out) hb); have n1_ := mk_ (hbox); have n2_ := mk_ ((by rw [hg]; exact (below_size (ub_ HB.out)) : w.heap.size ≤ gb101)); have n3_ := mk_ ((by rw [hg]; exact (below_size (ub_ HB.out)) : w.heap.size ≤ gb101)); clear HB; have HB := n0_; have BK101 := n1_; have GW101 := n2_; have GE101 := ge_ n3_.out; clear n0_ n1_ n2_ n3_; clear hb hbox hg; obtain ⟨hcz6_0, hcz6_1, hcz6_2, hcz6_3, hcz6_4, hcz6_5, hcz6_6, hcz6_7, hcz6_8, hfz6_0, hfz6_1, hfz6_2, hfz6_3, hfz6_4, hfz6_5, hfz6_6, hfz6_7, hfz6_8⟩ := cells9_ BK101.out) | ((with_reducible refine gate_callee (f := 60) rfl ?_); refine goesL_ (some 8) rfl rfl Try.func60 (by kernel_rfl) rfl #[.slice A0_8 l0_8.length c0_8, .int .i64 a1] rfl (by (try simp only [lm_, lo_, ln_]); first | done | rfl | (simp only [List.length_drop, List.length_take]; rfl)) ?_; (with_reducible refine (laws_szByteS.calls _ _ l0_8 a1 t102 _ ?side1 ?side2 A3.out).mono ?_); (case side1 => repeat (first | exact (Kd.C_below HR0_8.out HB.out) | (with_reducible refine Kd.C_alloc ?_ _) | (with_reducible refine Kd.C_drewN ?_ _) | (with_reducible refine Kd.C_drew ?_))); (case side2 => exact HC0_8.out); rintro e w' ⟨rfl, ⟨nd, rfl⟩⟩; refine ⟨_, rfl, ?_⟩))
  go_ret
  exact ⟨by first | rfl | (simp [errW_none, errW_some] <;> rfl) | (simp [*, errW_none, errW_some] <;> rfl), us_ HB.out⟩
 rw [if_neg c4] at H
 have c4b0 : decide (t102 < 0) = false := decide_eq_false c4
 clear c4
 obtain rfl := Option.some.inj H
 go_enter Try.func22, Try.ntmps22
 go_wp2_with (first | ((with_reducible refine gate_dst (N := 2) rfl ?_); refine box_event ?hg (N := 2) ?hd (cs := #[.int .i64 a0_0, .int .i64 a0_1, .int .i64 a0_2, .int .i64 a0_3, .int .i64 a0_4, .int .i64 a0_5, .bool a0_6, .bool a0_7, .slice A0_8 l0_8.length c0_8]) (t := 41) ?hr ?_; (case hd => rfl); (case hg => rfl); (case hr => first | (go_simp; done) | (go_simp; rfl)); intro gb101 hg w7 hbox hb; have n0_ := mk_ (below_step (ub_ HB.out) hb); have n1_ := mk_ (hbox); have n2_ := mk_ ((by rw [hg]; exact (below_size (ub_ HB.out)) : w.heap.size ≤ gb101)); have n3_ := mk_ ((by rw [hg]; exact (below_size (ub_ HB.out)) : w.heap.size ≤ gb101)); clear HB; have HB := n0_; have BK101 := n1_; have GW101 := n2_; have GE101 := ge_ n3_.out; clear n0_ n1_ n2_ n3_; clear hb hbox hg; obtain ⟨hcz8_0, hcz8_1, hcz8_2, hcz8_3, hcz8_4, hcz8_5, hcz8_6, hcz8_7, hcz8_8, hfz8_0, hfz8_1, hfz8_2, hfz8_3, hfz8_4, hfz8_5, hfz8_6, hfz8_7, hfz8_8⟩ := cells9_ BK101.out) | ((with_reducible refine gate_callee (f := 60) rfl ?_); refine goesL_ (some 8) rfl rfl Try.func60 (by kernel_rfl) rfl #[.slice A0_8 l0_8.length c0_8, .int .i64 a1] rfl (by (try simp only [lm_, lo_, ln_]); first | done | rfl | (simp only [List.length_drop, List.length_take]; rfl)) ?_; (with_reducible refine (laws_szByteS.calls _ _ l0_8 a1 t102 _ ?side1 ?side2 A3.out).mono ?_); (case side1 => repeat (first | exact (Kd.C_below HR0_8.out HB.out) | (with_reducible refine Kd.C_alloc ?_ _) | (with_reducible refine Kd.C_drewN ?_ _) | (with_reducible refine Kd.C_drew ?_))); (case side2 => exact HC0_8.out); rintro e w' ⟨rfl, ⟨nd, rfl⟩⟩; refine ⟨_, rfl, ?_⟩))
 go_ret
 exact ⟨by first | rfl | (simp [errW_none, errW_some] <;> rfl) | (simp [*, errW_none, errW_some] <;> rfl), us_ HB.out⟩

/-! ### spec_l1In: function 46 -/
def spec_l1In.f (a0 : Int) (a1 : Int) (a2 : Int) : Option (Bool) := if a0 ≥ a1 then (some (decide (a0 ≤ a2))) else (some false)
set_option maxHeartbeats 8000000 in
set_option maxRecDepth 100000 in
theorem spec_l1In.calls (a0 : Int) (a1 : Int) (a2 : Int) (r : Bool) (w : World) (h : spec_l1In.f a0 a1 a2 = some r) :
  Calls Try.prog 46 #[.int .i64 a0, .int .i64 a1, .int .i64 a2] w fun e w' => e = .returned (.bool r) ∧ Drawn0 w w' := by
 have H : (if a0 ≥ a1 then (some (decide (a0 ≤ a2))) else (some false)) = some r := h
 clear h
 by_cases c4 : a0 ≥ a1
 ·rw [if_pos c4] at H
  have c4b0 : decide (a1 ≤ a0) = true := decide_eq_true c4
  clear c4
  obtain rfl := Option.some.inj H
  go_enter Try.func46, Try.ntmps46
  go_wp2
  go_ret
  exact ⟨by first | rfl | (simp; done) | (simp [*]; done), by repeat (first | exact Drawn0.refl _ | apply Drawn0.step)⟩
 rw [if_neg c4] at H
 have c4b0 : decide (a1 ≤ a0) = false := decide_eq_false c4
 clear c4
 obtain rfl := Option.some.inj H
 go_enter Try.func46, Try.ntmps46
 go_wp2
 go_ret
 exact ⟨by first | rfl | (simp; done) | (simp [*]; done), by repeat (first | exact Drawn0.refl _ | apply Drawn0.step)⟩

/-! ### spec_NumberAt: function 53 -/
mutual
def spec_NumberAt.j0 : Nat → List Int → Int → Int → Bool → Option (Int)
 | 0, _, _, _, _ => none
 | k + 1, x0, x1, x2, x20 => if x20 = true then (some (-1)) else (spec_NumberAt.l0 k x0 x1 x2 0 0)
def spec_NumberAt.l0 : Nat → List Int → Int → Int → Int → Int → Option (Int)
 | 0, _, _, _, _, _ => none
 | k + 1, x0, x1, x2, x7, x8 => if x8 < x2 then (if 0 ≤ (wrap64 (x1 + x8)) then (if (wrap64 (x1 + x8)) < (x0.length : Int) then (spec_NumberAt.l0 k x0 x1 x2 (wrap64 ((wrap64 (x7 * 256)) + (wrap64 (rd x0 (wrap64 (x1 + x8)))))) (wrap64 (x8 + 1))) else (none)) else (none)) else (some x7)
end
def spec_NumberAt.f (k : Nat) (l0 : List Int) (a1 : Int) (a2 : Int) : Option (Int) := (spec_l1In.f a2 1 4).bind fun t103 => (if t103 = true then ((spec_l1In.f a1 0 (wrap64 ((l0.length : Int) - a2))).bind fun t104 => (spec_NumberAt.j0 k l0 a1 a2 (!t104))) else (spec_NumberAt.j0 k l0 a1 a2 true))
theorem spec_NumberAt.mono_l : ∀ k, (∀ y0 y1 y2 y3, LeO (spec_NumberAt.j0 k y0 y1 y2 y3) (spec_NumberAt.j0 (k + 1) y0 y1 y2 y3)) ∧ (∀ y0 y1 y2 y3 y4, LeO (spec_NumberAt.l0 k y0 y1 y2 y3 y4) (spec_NumberAt.l0 (k + 1) y0 y1 y2 y3 y4))
 | 0 => ⟨fun _ _ _ _ r h => by simp [spec_NumberAt.j0] at h, fun _ _ _ _ _ r h => by simp [spec_NumberAt.l0] at h⟩
 | k + 1 => by
  obtain ⟨ih0, ih1⟩ := spec_NumberAt.mono_l k
  refine ⟨?_, ?_⟩
  ·intro y0 y1 y2 y3
   unfold spec_NumberAt.j0
   repeat' first
   | (with_reducible exact ih0 _ _ _ _)
   | (with_reducible exact ih1 _ _ _ _ _)
   | (with_reducible exact LeO.refl _)
   | (with_reducible exact LeO.none _)
   | (with_reducible refine LeO.ite ?_ ?_)
   | (with_reducible refine LeO.bind ?_ (fun _ => ?_))
   | exact ih0 _ _ _ _
   | exact ih1 _ _ _ _ _
   | exact LeO.none _
   | refine LeO.ite ?_ ?_
   | refine LeO.bind ?_ (fun _ => ?_)
  ·intro y0 y1 y2 y3 y4
   unfold spec_NumberAt.l0
   repeat' first
   | (with_reducible exact ih0 _ _ _ _)
   | (with_reducible exact ih1 _ _ _ _ _)
   | (with_reducible exact LeO.refl _)
   | (with_reducible exact LeO.none _)
   | (with_reducible refine LeO.ite ?_ ?_)
   | (with_reducible refine LeO.bind ?_ (fun _ => ?_))
   | exact ih0 _ _ _ _
   | exact ih1 _ _ _ _ _
   | exact LeO.none _
   | refine LeO.ite ?_ ?_
   | refine LeO.bind ?_ (fun _ => ?_)
theorem spec_NumberAt.mono : ∀ a0 a1 a2 k, LeO (spec_NumberAt.f k a0 a1 a2) (spec_NumberAt.f (k + 1) a0 a1 a2) := by
 intro a0 a1 a2 k
 obtain ⟨ih0, ih1⟩ := spec_NumberAt.mono_l k
 unfold spec_NumberAt.f
 repeat' first
   | (with_reducible exact ih0 _ _ _ _)
   | (with_reducible exact ih1 _ _ _ _ _)
   | (with_reducible exact LeO.refl _)
   | (with_reducible exact LeO.none _)
   | (with_reducible refine LeO.ite ?_ ?_)
   | (with_reducible refine LeO.bind ?_ (fun _ => ?_))
   | exact ih0 _ _ _ _
   | exact ih1 _ _ _ _ _
   | exact LeO.none _
   | refine LeO.ite ?_ ?_
   | refine LeO.bind ?_ (fun _ => ?_)
set_option maxHeartbeats 8000000 in
set_option maxRecDepth 100000 in
theorem spec_NumberAt.calls (k : Nat) (A0 : Option Addr) (c0 : Nat) (l0 : List Int) (a1 : Int) (a2 : Int) (r : Int) (w : World) (hr0 : Kd.C (Kd.int .u8) w A0 l0.length l0) (hc0 : l0.length ≤ c0) (h : spec_NumberAt.f k l0 a1 a2 = some r) :
  Calls Try.prog 53 #[.slice A0 l0.length c0, .int .i64 a1, .int .i64 a2] w fun e w' => e = .returned (.int .i64 r) ∧ Drawn0 w w' := by
 have HR0 := mk_ hr0
 have HC0 := mk_ hc0
 clear hr0 hc0
 have H : ((spec_l1In.f a2 1 4).bind fun t103 => (if t103 = true then ((spec_l1In.f a1 0 (wrap64 ((l0.length : Int) - a2))).bind fun t104 => (spec_NumberAt.j0 k l0 a1 a2 (!t104))) else (spec_NumberAt.j0 k l0 a1 a2 true))) = some r := h
 clear h
 have HC4 := mk_ H
 clear H
 go_enter Try.func53, Try.ntmps53
 go_upto_region 1 with (fail)
 go_cut [20] (fun v20 wc => ∃ (kq : Nat) (x20_3 : Bool), v20 = .bool x20_3 ∧ Aside0 (spec_NumberAt.j0 kq l0 a1 a2 x20_3 = some r) ∧ Aside0 (kq ≤ k) ∧ Drawn0 w wc)
 case first =>
  have H := HC4.out
  clear HC4
  replace H := Option.bind_eq_some_iff.mp H
  obtain ⟨t103, A50, H⟩ := H
  replace H : (if t103 = true then ((spec_l1In.f a1 0 (wrap64 ((l0.length : Int) - a2))).bind fun t104 => (spec_NumberAt.j0 k l0 a1 a2 (!t104))) else (spec_NumberAt.j0 k l0 a1 a2 true)) = some r := H
  have A5 := mk_ A50
  clear A50
  by_cases c6 : t103 = true
  rotate_left
  ·replace c6 := Bool.eq_false_iff.mpr c6
   subst c6
   have H1 : (spec_NumberAt.j0 k l0 a1 a2 true) = some r := by rw [if_neg (show ¬ (false = true) by decide)] at H; exact H
   clear H
   have H := H1
   clear H1
   have H' := mk_ H
   clear H
   go_wp2_with (first | ((with_reducible refine gate_callee (f := 46) rfl ?_); refine goesL_ (some 10) rfl rfl Try.func46 (by kernel_rfl) rfl #[.int .i64 a2, .int .i64 1, .int .i64 4] rfl (by (try simp only [lm_, lo_, ln_]); first | done | rfl | (simp only [List.length_drop, List.length_take]; rfl)) ?_; (with_reducible refine (spec_l1In.calls a2 1 4 false _ A5.out).mono ?_); rintro e w' ⟨rfl, ⟨nd, rfl⟩⟩; refine ⟨_, rfl, ?_⟩))
   go_meet
   case rel => exact ⟨_, (true), (by first | rfl | (simp; done) | (simp [*]; done)), H', ⟨by first | omega | exact Nat.le_refl _⟩, by repeat (first | exact Drawn0.refl _ | apply Drawn0.step)⟩
  subst c6
  have H1 : ((spec_l1In.f a1 0 (wrap64 ((l0.length : Int) - a2))).bind fun t104 => (spec_NumberAt.j0 k l0 a1 a2 (!t104))) = some r := by rw [if_pos rfl] at H; exact H
  clear H
  have H := H1
  clear H1
  replace H := Option.bind_eq_some_iff.mp H
  obtain ⟨t104, A70, H⟩ := H
  replace H : (spec_NumberAt.j0 k l0 a1 a2 (!t104)) = some r := H
  have A7 := mk_ A70
  clear A70
  have H' := mk_ H
  clear H
  go_wp2_with (first | ((with_reducible refine gate_callee (f := 46) rfl ?_); refine goesL_ (some 10) rfl rfl Try.func46 (by kernel_rfl) rfl #[.int .i64 a2, .int .i64 1, .int .i64 4] rfl (by (try simp only [lm_, lo_, ln_]); first | done | rfl | (simp only [List.length_drop, List.length_take]; rfl)) ?_; (with_reducible refine (spec_l1In.calls a2 1 4 true _ A5.out).mono ?_); rintro e w' ⟨rfl, ⟨nd, rfl⟩⟩; refine ⟨_, rfl, ?_⟩) | (go_at_call 46; (with_reducible refine (spec_l1In.calls a1 0 (wrap64 ((l0.length : Int) - a2)) t104 _ A7.out).mono ?_); rintro e w' ⟨rfl, ⟨nd, rfl⟩⟩))
  go_meet
  case rel => exact ⟨_, (!t104), (by first | rfl | (simp; done) | (simp [*]; done)), H', ⟨by first | omega | exact Nat.le_refl _⟩, by repeat (first | exact Drawn0.refl _ | apply Drawn0.step)⟩
 case rest =>
  clear HC4
  try clear p2
  try clear c4
  try clear c5
  try clear c6
  try clear p6
  obtain ⟨kq, x20_3, rfl, HA, HJ3, ⟨mc3, rfl⟩⟩ := hcut
  cases kq with
  | zero => exact absurd HA.out (by simp [spec_NumberAt.j0])
  | succ kj3 =>
   have H := HA.out
   clear HA
   simp only [spec_NumberAt.j0] at H
   by_cases c8 : x20_3 = true
   ·subst c8
    have H1 : (some (-1)) = some r := by rw [if_pos rfl] at H; exact H
    clear H
    have H := H1
    clear H1
    obtain rfl := Option.some.inj H
    go_wp2
    go_ret
    exact ⟨by first | rfl | (simp; done) | (simp [*]; done), by repeat (first | exact Drawn0.refl _ | apply Drawn0.step)⟩
   replace c8 := Bool.eq_false_iff.mpr c8
   subst c8
   have H1 : (spec_NumberAt.l0 kj3 l0 a1 a2 0 0) = some r := by rw [if_neg (show ¬ (false = true) by decide)] at H; exact H
   clear H
   have H := H1
   clear H1
   have H' := mk_ H
   clear H
   go_wp2
   go_loopg [7, 8] kj3 (fun kq v7 v8 w' => ∃ (x7_2 : Int) (x8_2 : Int), v7 = .int .i64 x7_2 ∧ v8 = .int .i64 x8_2 ∧ Aside0 (spec_NumberAt.l0 kq l0 a1 a2 x7_2 x8_2 = some r) ∧ Aside0 (kq ≤ kj3) ∧ Drawn0 w w')
   case atStart => exact ⟨(0), (0), (by first | rfl | (simp; done) | (simp [*]; done)), (by first | rfl | (simp; done) | (simp [*]; done)), H', ⟨Nat.le_refl _⟩, by repeat (first | exact Drawn0.refl _ | apply Drawn0.step)⟩
   case round =>
    clear H'
    try clear p2
    try clear c3
    try clear c4
    try clear c5
    try clear c6
    try clear p6
    try clear c8
    try clear p2
    try clear p6
    obtain ⟨x7_2, x8_2, rfl, rfl, HA, HK2, ⟨m2, rfl⟩⟩ := hrel
    cases gk with
    | zero => exact absurd HA.out (by simp [spec_NumberAt.l0])
    | succ k2 =>
     have H := HA.out
     clear HA
     simp only [spec_NumberAt.l0] at H
     by_cases c9 : x8_2 < a2
     rotate_left
     ·rw [if_neg c9] at H
      have c9b0 : decide (x8_2 < a2) = false := decide_eq_false c9
      clear c9
      obtain rfl := Option.some.inj H
      go_wp2
      go_ret
      exact ⟨by first | rfl | (simp; done) | (simp [*]; done), by repeat (first | exact Drawn0.refl _ | apply Drawn0.step)⟩
     rw [if_pos c9] at H
     have c9b0 : decide (x8_2 < a2) = true := decide_eq_true c9
     clear c9
     obtain ⟨ji10, hji10⟩ : ∃ j_ : Int, (wrap64 (a1 + x8_2)) = j_ := ⟨_, rfl⟩
     replace H : (if 0 ≤ (ji10) then (if (ji10) < (l0.length : Int) then (spec_NumberAt.l0 k2 l0 a1 a2 (wrap64 ((wrap64 (x7_2 * 256)) + (wrap64 (rd l0 (ji10))))) (wrap64 (x8_2 + 1))) else (none)) else (none)) = some r := by first | (rw [hji10] at H; exact H) | (simp only [hji10] at H ⊢; exact H)
     have hji10w : (IntKind.i64.wrap (a1 + x8_2)) = ji10 := (i64_w _).trans hji10
     by_cases c11 : 0 ≤ (ji10)
     rotate_left
     ·rw [if_neg c11] at H
      exact absurd H (by simp)
     rw [if_pos c11] at H
     have c11b0 : decide (0 ≤ (ji10)) = true := decide_eq_true c11
     clear c11
     by_cases c12 : (ji10) < (l0.length : Int)
     rotate_left
     ·rw [if_neg c12] at H
      exact absurd H (by simp)
     rw [if_pos c12] at H
     have c12b0 : decide ((ji10) < (l0.length : Int)) = true := decide_eq_true c12
     clear c12
     have H' := mk_ H
     clear H
     have p105 : 0 ≤ ((ji10) : Int) := of_decide_eq_true (by first | (with_reducible assumption) | assumption)
     have q105 : (ji10) < (l0.length : Int) := of_decide_eq_true (by first | (with_reducible assumption) | assumption)
     obtain ⟨ad105, e105, hx105_0⟩ := Kd.at_int HR0.out (ji10) p105 q105
     cases e105
     replace p105 := eq_true p105
     replace q105 := eq_true q105
     go_wp2
     go_roundg k2
     case measure => have := HJ3.out; have := HK2.out; omega
     case rel => exact ⟨(wrap64 ((wrap64 (x7_2 * 256)) + (wrap64 (rd l0 (ji10))))), (wrap64 (x8_2 + 1)), (by first | rfl | (simp; done) | (simp only [← hji10] <;> (first | rfl | simp)) | (simp [*]; done)), (by first | rfl | (simp; done) | (simp [*]; done)), H', ⟨by have := HJ3.out; have := HK2.out; omega⟩, by repeat (first | exact Drawn0.refl _ | apply Drawn0.step)⟩

/-! ### spec_NoteOk: function 81 -/
def spec_NoteOk.f (a0_0 : Int) (a0_1 : Int) (l0_2 : List Int) : Option (Bool) := (spec_l1In.f a0_0 1 6).bind fun t107 => (if t107 = true then ((spec_l1In.f a0_1 0 65535).bind fun t108 => (if t108 = true then (some (decide ((l0_2.length : Int) ≤ 20))) else (some false))) else (some false))
set_option maxHeartbeats 8000000 in
set_option maxRecDepth 100000 in
theorem spec_NoteOk.calls (a0_0 : Int) (a0_1 : Int) (A0_2 : Option Addr) (c0_2 : Nat) (l0_2 : List Int) (r : Bool) (w : World) (hr0_2 : Kd.C (Kd.int .u8) w A0_2 l0_2.length l0_2) (hc0_2 : l0_2.length ≤ c0_2) (h : spec_NoteOk.f a0_0 a0_1 l0_2 = some r) :
  Calls Try.prog 81 #[.agg #[.int .i64 a0_0, .int .i64 a0_1, .slice A0_2 l0_2.length c0_2]] w fun e w' => e = .returned (.bool r) ∧ Below w.heap.size w w' := by
 have hu63 := Try.underlying63
 have HR0_2 := mk_ hr0_2
 have HC0_2 := mk_ hc0_2
 clear hr0_2 hc0_2
 have HB := mk_ (Below.refl w.heap.size w)
 have H : ((spec_l1In.f a0_0 1 6).bind fun t107 => (if t107 = true then ((spec_l1In.f a0_1 0 65535).bind fun t108 => (if t108 = true then (some (decide ((l0_2.length : Int) ≤ 20))) else (some false))) else (some false))) = some r := h
 clear h
 replace H := Option.bind_eq_some_iff.mp H
 obtain ⟨t107, A20, H⟩ := H
 replace H : (if t107 = true then ((spec_l1In.f a0_1 0 65535).bind fun t108 => (if t108 = true then (some (decide ((l0_2.length : Int) ≤ 20))) else (some false))) else (some false)) = some r := H
 have A2 := mk_ A20
 clear A20
 by_cases c3 : t107 = true
 rotate_left
 ·replace c3 := Bool.eq_false_iff.mpr c3
  subst c3
  have H1 : (some false) = some r := by rw [if_neg (show ¬ (false = true) by decide)] at H; exact H
  clear H
  have H := H1
  clear H1
  obtain rfl := Option.some.inj H
  go_enter Try.func81, Try.ntmps81
  go_wp2_with (first | ((with_reducible refine gate_dst (N := 1) rfl ?_); refine box_event ?hg (N := 1) ?hd (cs := #[.int .i64 a0_0, .int .i64 a0_1, .slice A0_2 l0_2.length c0_2]) (t := 63) ?hr ?_; (case hd => rfl); (case hg => rfl); (case hr => first | (go_simp; done) | (go_simp; rfl)); intro gb106 hg w10 hbox hb; have n0_ := mk_ (below_step (ub_ HB.out) hb); have n1_ := mk_ (hbox); have n2_ := mk_ ((by rw [hg]; exact (below_size (ub_ HB.out)) : w.heap.size ≤ gb106)); have n3_ := mk_ ((by rw [hg]; exact (below_size (ub_ HB.out)) : w.heap.size ≤ gb106)); clear HB; have HB := n0_; have BK106 := n1_; have GW106 := n2_; have GE106 := ge_ n3_.out; clear n0_ n1_ n2_ n3_; clear hb hbox hg; obtain ⟨hcz11_0, hcz11_1, hcz11_2, hfz11_0, hfz11_1, hfz11_2⟩ := cells3_ BK106.out) | ((with_reducible refine gate_callee (f := 46) rfl ?_); refine goesL_ (some 5) rfl rfl Try.func46 (by kernel_rfl) rfl #[.int .i64 a0_0, .int .i64 1, .int .i64 6] rfl (by (try simp only [lm_, lo_, ln_]); first | done | rfl | (simp only [List.length_drop, List.length_take]; rfl)) ?_; (with_reducible refine (spec_l1In.calls a0_0 1 6 false _ A2.out).mono ?_); rintro e w' ⟨rfl, ⟨nd, rfl⟩⟩; refine ⟨_, rfl, ?_⟩))
  go_ret
  exact ⟨by first | rfl | (simp [errW_none, errW_some] <;> rfl) | (simp [*, errW_none, errW_some] <;> rfl), us_ HB.out⟩
 subst c3
 have H1 : ((spec_l1In.f a0_1 0 65535).bind fun t108 => (if t108 = true then (some (decide ((l0_2.length : Int) ≤ 20))) else (some false))) = some r := by rw [if_pos rfl] at H; exact H
 clear H
 have H := H1
 clear H1
 replace H := Option.bind_eq_some_iff.mp H
 obtain ⟨t108, A40, H⟩ := H
 replace H : (if t108 = true then (some (decide ((l0_2.length : Int) ≤ 20))) else (some false)) = some r := H
 have A4 := mk_ A40
 clear A40
 by_cases c5 : t108 = true
 ·subst c5
  have H1 : (some (decide ((l0_2.length : Int) ≤ 20))) = some r := by rw [if_pos rfl] at H; exact H
  clear H
  have H := H1
  clear H1
  obtain rfl := Option.some.inj H
  go_enter Try.func81, Try.ntmps81
  go_wp2_with (first | ((with_reducible refine gate_dst (N := 1) rfl ?_); refine box_event ?hg (N := 1) ?hd (cs := #[.int .i64 a0_0, .int .i64 a0_1, .slice A0_2 l0_2.length c0_2]) (t := 63) ?hr ?_; (case hd => rfl); (case hg => rfl); (case hr => first | (go_simp; done) | (go_simp; rfl)); intro gb106 hg w6 hbox hb; have n0_ := mk_ (below_step (ub_ HB.out) hb); have n1_ := mk_ (hbox); have n2_ := mk_ ((by rw [hg]; exact (below_size (ub_ HB.out)) : w.heap.size ≤ gb106)); have n3_ := mk_ ((by rw [hg]; exact (below_size (ub_ HB.out)) : w.heap.size ≤ gb106)); clear HB; have HB := n0_; have BK106 := n1_; have GW106 := n2_; have GE106 := ge_ n3_.out; clear n0_ n1_ n2_ n3_; clear hb hbox hg; obtain ⟨hcz7_0, hcz7_1, hcz7_2, hfz7_0, hfz7_1, hfz7_2⟩ := cells3_ BK106.out) | ((with_reducible refine gate_callee (f := 46) rfl ?_); refine goesL_ (some 5) rfl rfl Try.func46 (by kernel_rfl) rfl #[.int .i64 a0_0, .int .i64 1, .int .i64 6] rfl (by (try simp only [lm_, lo_, ln_]); first | done | rfl | (simp only [List.length_drop, List.length_take]; rfl)) ?_; (with_reducible refine (spec_l1In.calls a0_0 1 6 true _ A2.out).mono ?_); rintro e w' ⟨rfl, ⟨nd, rfl⟩⟩; refine ⟨_, rfl, ?_⟩) | (go_at_call 46; (with_reducible refine (spec_l1In.calls a0_1 0 65535 true _ A4.out).mono ?_); rintro e w' ⟨rfl, ⟨nd, rfl⟩⟩))
  go_ret
  exact ⟨by first | rfl | (simp [errW_none, errW_some] <;> rfl) | (simp [*, errW_none, errW_some] <;> rfl), us_ HB.out⟩
 replace c5 := Bool.eq_false_iff.mpr c5
 subst c5
 have H1 : (some false) = some r := by rw [if_neg (show ¬ (false = true) by decide)] at H; exact H
 clear H
 have H := H1
 clear H1
 obtain rfl := Option.some.inj H
 go_enter Try.func81, Try.ntmps81
 go_wp2_with (first | ((with_reducible refine gate_dst (N := 1) rfl ?_); refine box_event ?hg (N := 1) ?hd (cs := #[.int .i64 a0_0, .int .i64 a0_1, .slice A0_2 l0_2.length c0_2]) (t := 63) ?hr ?_; (case hd => rfl); (case hg => rfl); (case hr => first | (go_simp; done) | (go_simp; rfl)); intro gb106 hg w8 hbox hb; have n0_ := mk_ (below_step (ub_ HB.out) hb); have n1_ := mk_ (hbox); have n2_ := mk_ ((by rw [hg]; exact (below_size (ub_ HB.out)) : w.heap.size ≤ gb106)); have n3_ := mk_ ((by rw [hg]; exact (below_size (ub_ HB.out)) : w.heap.size ≤ gb106)); clear HB; have HB := n0_; have BK106 := n1_; have GW106 := n2_; have GE106 := ge_ n3_.out; clear n0_ n1_ n2_ n3_; clear hb hbox hg; obtain ⟨hcz9_0, hcz9_1, hcz9_2, hfz9_0, hfz9_1, hfz9_2⟩ := cells3_ BK106.out) | ((with_reducible refine gate_callee (f := 46) rfl ?_); refine goesL_ (some 5) rfl rfl Try.func46 (by kernel_rfl) rfl #[.int .i64 a0_0, .int .i64 1, .int .i64 6] rfl (by (try simp only [lm_, lo_, ln_]); first | done | rfl | (simp only [List.length_drop, List.length_take]; rfl)) ?_; (with_reducible refine (spec_l1In.calls a0_0 1 6 true _ A2.out).mono ?_); rintro e w' ⟨rfl, ⟨nd, rfl⟩⟩; refine ⟨_, rfl, ?_⟩) | (go_at_call 46; (with_reducible refine (spec_l1In.calls a0_1 0 65535 false _ A4.out).mono ?_); rintro e w' ⟨rfl, ⟨nd, rfl⟩⟩))
 go_ret
 exact ⟨by first | rfl | (simp [errW_none, errW_some] <;> rfl) | (simp [*, errW_none, errW_some] <;> rfl), us_ HB.out⟩

end Go.Proofs.Ytgfaamcihlojdag.MFnExactNoteEchoed
