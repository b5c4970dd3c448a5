/- Functions that the law FnExactPathRoom reaches, each with the proof that the machine's call comes to just its answer; no conditions but those that each theorem states. Printed by a program of this session over the kit's print. -/
import Derived.Test.YtdclgfdkomoedaaMFnExactPathRoomx0
namespace Go.Proofs.Ytdclgfdkomoedaa.MFnExactPathRoom
open Go.RowKit Go.Proofs.YtdclgfdkomoedaaV.PrintWords Go.Proofs.YtdclgfdkomoedaaV.PrintLast Go.Proofs.YtdclgfdkomoedaaV.PrintMore
attribute [local go_sem] max2_int min2_int max_two min_two max_three min_three max_four min_four   -- for this text's walks alone
set_option linter.unusedVariables false
set_option linter.unusedSimpArgs false

/-! ### laws_szRouteS: function 107 -/
def laws_szRouteS.f (l0 : List (S161)) (a1 : Int) : Option (Int) := if (wrap64 (a1 - (l0.length : Int))) < 0 then (some (-1)) else (some (wrap64 (a1 - (l0.length : Int))))
set_option maxHeartbeats 8000000 in
set_option maxRecDepth 100000 in
theorem laws_szRouteS.calls (A0 : Option Addr) (c0 : Nat) (l0 : List (S161)) (a1 : Int) (r : Int) (w : World) (hr0 : Kd.C k161 w A0 l0.length l0) (hc0 : l0.length ≤ c0) (h : laws_szRouteS.f l0 a1 = some r) :
  Calls Try.prog 107 #[.slice A0 l0.length c0, .int .i64 a1] w fun e w' => e = .returned (.int .i64 r) ∧ Drawn0 w w' := by
 have HR0 := mk_ hr0
 have HC0 := mk_ hc0
 clear hr0 hc0
 have H : (if (wrap64 (a1 - (l0.length : Int))) < 0 then (some (-1)) else (some (wrap64 (a1 - (l0.length : Int))))) = some r := h
 clear h
 by_cases c3 : (wrap64 (a1 - (l0.length : Int))) < 0
 ·rw [if_pos c3] at H
  have c3b0 : decide ((wrap64 (a1 - (l0.length : Int))) < 0) = true := decide_eq_true c3
  clear c3
  obtain rfl := Option.some.inj H
  go_enter Try.func107, Try.ntmps107
  go_wp2
  go_ret
  exact ⟨by first | rfl | (simp; done) | (simp [*]; done), by repeat (first | exact Drawn0.refl _ | apply Drawn0.step)⟩
 rw [if_neg c3] at H
 have c3b0 : decide ((wrap64 (a1 - (l0.length : Int))) < 0) = false := decide_eq_false c3
 clear c3
 obtain rfl := Option.some.inj H
 go_enter Try.func107, Try.ntmps107
 go_wp2
 go_ret
 exact ⟨by first | rfl | (simp; done) | (simp [*]; done), by repeat (first | exact Drawn0.refl _ | apply Drawn0.step)⟩

/-! ### laws_szStation: function 60 -/
def laws_szStation.f (a0_0 : Int) (l0_1 : List (S161)) (a1 : Int) : Option (Int) := (laws_szRouteS.f l0_1 a1).bind fun t102 => (if t102 < 0 then (some (-1)) else (some t102))
set_option maxHeartbeats 8000000 in
set_option maxRecDepth 100000 in
theorem laws_szStation.calls (a0_0 : Int) (A0_1 : Option Addr) (c0_1 : Nat) (l0_1 : List (S161)) (a1 : Int) (r : Int) (w : World) (hr0_1 : Kd.C k161 w A0_1 l0_1.length l0_1) (hc0_1 : l0_1.length ≤ c0_1) (h : laws_szStation.f a0_0 l0_1 a1 = some r) :
  Calls Try.prog 60 #[.agg #[.int .i64 a0_0, .slice A0_1 l0_1.length c0_1], .int .i64 a1] w fun e w' => e = .returned (.int .i64 r) ∧ Below w.heap.size w w' := by
 have hu89 := Try.underlying89
 have HR0_1 := mk_ hr0_1
 have HC0_1 := mk_ hc0_1
 clear hr0_1 hc0_1
 have HB := mk_ (Below.refl w.heap.size w)
 have H : ((laws_szRouteS.f l0_1 a1).bind fun t102 => (if t102 < 0 then (some (-1)) else (some t102))) = some r := h
 clear h
 replace H := Option.bind_eq_some_iff.mp H
 obtain ⟨t102, A30, H⟩ := H
 replace H : (if t102 < 0 then (some (-1)) else (some t102)) = some r := H
 have A3 := mk_ A30
 clear A30
 by_cases c4 : t102 < 0
 ·rw [if_pos c4] at H
  have c4b0 : decide (t102 < 0) = true := decide_eq_true c4
  clear c4
  obtain rfl := Option.some.inj H
  go_enter Try.func60, Try.ntmps60
  go_wp2_with (first | ((with_reducible refine gate_dst (N := 2) rfl ?_); refine box_event ?hg (N := 2) ?hd (cs := #[.int .i64 a0_0, .slice A0_1 l0_1.length c0_1]) (t := 89) ?hr ?_; (case hd => rfl); (case hg => rfl); (case hr => first | (go_simp; done) | (go_simp; rfl)); intro gb101 hg w5 hbox hb; have n0_ := mk_ (below_step (ub_ HB.out) hb); have n1_ := mk_ (hbox); have n2_ := mk_ ((by rw [hg]; exact (below_size (ub_ HB.out)) : w.heap.size ≤ gb101)); have n3_ := mk_ ((by rw [hg]; exact (below_size (ub_ HB.out)) : w.heap.size ≤ gb101)); clear HB; have HB := n0_; have BK101 := n1_; have GW101 := n2_; have GE101 := ge_ n3_.out; clear n0_ n1_ n2_ n3_; clear hb hbox hg; obtain ⟨hcz6_0, hcz6_1, hfz6_0, hfz6_1⟩ := cells2_ BK101.out) | ((with_reducible refine gate_callee (f := 107) rfl ?_); refine goesL_ (some 8) rfl rfl Try.func107 (by kernel_rfl) rfl #[.slice A0_1 l0_1.length c0_1, .int .i64 a1] rfl (by (try simp only [lm_, lo_, ln_]); first | done | rfl | (simp only [List.length_drop, List.length_take]; rfl)) ?_; (with_reducible refine (laws_szRouteS.calls _ _ l0_1 a1 t102 _ ?side1 ?side2 A3.out).mono ?_); (case side1 => repeat (first | exact (Kd.C_below HR0_1.out HB.out) | (with_reducible refine Kd.C_alloc ?_ _) | (with_reducible refine Kd.C_drewN ?_ _) | (with_reducible refine Kd.C_drew ?_))); (case side2 => exact HC0_1.out); rintro e w' ⟨rfl, ⟨nd, rfl⟩⟩; refine ⟨_, rfl, ?_⟩))
  go_ret
  exact ⟨by first | rfl | (simp [errW_none, errW_some] <;> rfl) | (simp [*, errW_none, errW_some] <;> rfl), us_ HB.out⟩
 rw [if_neg c4] at H
 have c4b0 : decide (t102 < 0) = false := decide_eq_false c4
 clear c4
 obtain rfl := Option.some.inj H
 go_enter Try.func60, Try.ntmps60
 go_wp2_with (first | ((with_reducible refine gate_dst (N := 2) rfl ?_); refine box_event ?hg (N := 2) ?hd (cs := #[.int .i64 a0_0, .slice A0_1 l0_1.length c0_1]) (t := 89) ?hr ?_; (case hd => rfl); (case hg => rfl); (case hr => first | (go_simp; done) | (go_simp; rfl)); intro gb101 hg w7 hbox hb; have n0_ := mk_ (below_step (ub_ HB.out) hb); have n1_ := mk_ (hbox); have n2_ := mk_ ((by rw [hg]; exact (below_size (ub_ HB.out)) : w.heap.size ≤ gb101)); have n3_ := mk_ ((by rw [hg]; exact (below_size (ub_ HB.out)) : w.heap.size ≤ gb101)); clear HB; have HB := n0_; have BK101 := n1_; have GW101 := n2_; have GE101 := ge_ n3_.out; clear n0_ n1_ n2_ n3_; clear hb hbox hg; obtain ⟨hcz8_0, hcz8_1, hfz8_0, hfz8_1⟩ := cells2_ BK101.out) | ((with_reducible refine gate_callee (f := 107) rfl ?_); refine goesL_ (some 8) rfl rfl Try.func107 (by kernel_rfl) rfl #[.slice A0_1 l0_1.length c0_1, .int .i64 a1] rfl (by (try simp only [lm_, lo_, ln_]); first | done | rfl | (simp only [List.length_drop, List.length_take]; rfl)) ?_; (with_reducible refine (laws_szRouteS.calls _ _ l0_1 a1 t102 _ ?side1 ?side2 A3.out).mono ?_); (case side1 => repeat (first | exact (Kd.C_below HR0_1.out HB.out) | (with_reducible refine Kd.C_alloc ?_ _) | (with_reducible refine Kd.C_drewN ?_ _) | (with_reducible refine Kd.C_drew ?_))); (case side2 => exact HC0_1.out); rintro e w' ⟨rfl, ⟨nd, rfl⟩⟩; refine ⟨_, rfl, ?_⟩))
 go_ret
 exact ⟨by first | rfl | (simp [errW_none, errW_some] <;> rfl) | (simp [*, errW_none, errW_some] <;> rfl), us_ HB.out⟩

/-! ### laws_szStationS: function 21 -/
def laws_szStationS.l0 : Nat → List (S89) → Int → Int → Option (Int)
 | 0, _, _, _ => none
 | k + 1, x0, x1, x5 => if x5 < (x0.length : Int) then (if 0 ≤ x5 then ((laws_szStation.f ((rd_T89 x0 x5).f0) ((rd_T89 x0 x5).f1) x1).bind fun t104 => (if t104 < 0 then (some (-1)) else (laws_szStationS.l0 k x0 t104 (wrap64 (x5 + 1))))) else (none)) else (some x1)
def laws_szStationS.f (k : Nat) (l0 : List (S89)) (a1 : Int) : Option (Int) := if (wrap64 (a1 - (l0.length : Int))) < 0 then (some (-1)) else (laws_szStationS.l0 k l0 (wrap64 (a1 - (l0.length : Int))) 0)
theorem laws_szStationS.mono_l : ∀ k, (∀ y0 y1 y2, LeO (laws_szStationS.l0 k y0 y1 y2) (laws_szStationS.l0 (k + 1) y0 y1 y2))
 | 0 => fun _ _ _ r h => by simp [laws_szStationS.l0] at h
 | k + 1 => by
  have ih0 := laws_szStationS.mono_l k
  ·intro y0 y1 y2
   unfold laws_szStationS.l0
   repeat' first
   | (with_reducible exact ih0 _ _ _)
   | (with_reducible exact LeO.refl _)
   | (with_reducible exact LeO.none _)
   | (with_reducible refine LeO.ite ?_ ?_)
   | (with_reducible refine LeO.bind ?_ (fun _ => ?_))
   | exact ih0 _ _ _
   | exact LeO.none _
   | refine LeO.ite ?_ ?_
   | refine LeO.bind ?_ (fun _ => ?_)
theorem laws_szStationS.mono : ∀ a0 a1 k, LeO (laws_szStationS.f k a0 a1) (laws_szStationS.f (k + 1) a0 a1) := by
 intro a0 a1 k
 have ih0 := laws_szStationS.mono_l k
 unfold laws_szStationS.f
 repeat' first
   | (with_reducible exact ih0 _ _ _)
   | (with_reducible exact LeO.refl _)
   | (with_reducible exact LeO.none _)
   | (with_reducible refine LeO.ite ?_ ?_)
   | (with_reducible refine LeO.bind ?_ (fun _ => ?_))
   | exact ih0 _ _ _
   | exact LeO.none _
   | refine LeO.ite ?_ ?_
   | refine LeO.bind ?_ (fun _ => ?_)
set_option maxHeartbeats 8000000 in
set_option maxRecDepth 100000 in
theorem laws_szStationS.calls (k : Nat) (A0 : Option Addr) (c0 : Nat) (l0 : List (S89)) (a1 : Int) (r : Int) (w : World) (hr0 : Kd.C k89 w A0 l0.length l0) (hc0 : l0.length ≤ c0) (h : laws_szStationS.f k l0 a1 = some r) :
  Calls Try.prog 21 #[.slice A0 l0.length c0, .int .i64 a1] w fun e w' => e = .returned (.int .i64 r) ∧ Below w.heap.size w w' := by
 have hu89 := Try.underlying89
 have HR0 := mk_ hr0
 have HC0 := mk_ hc0
 clear hr0 hc0
 have HB := mk_ (Below.refl w.heap.size w)
 have H : (if (wrap64 (a1 - (l0.length : Int))) < 0 then (some (-1)) else (laws_szStationS.l0 k l0 (wrap64 (a1 - (l0.length : Int))) 0)) = some r := h
 clear h
 by_cases c3 : (wrap64 (a1 - (l0.length : Int))) < 0
 ·rw [if_pos c3] at H
  have c3b0 : decide ((wrap64 (a1 - (l0.length : Int))) < 0) = true := decide_eq_true c3
  clear c3
  obtain rfl := Option.some.inj H
  go_enter Try.func21, Try.ntmps21
  go_wp2
  go_ret
  exact ⟨by first | rfl | (simp [errW_none, errW_some] <;> rfl) | (simp [*, errW_none, errW_some] <;> rfl), by repeat (first | (with_reducible first | exact HB.out | apply na_ | apply nn_ | apply nw_) | exact HB.out)⟩
 rw [if_neg c3] at H
 have c3b0 : decide ((wrap64 (a1 - (l0.length : Int))) < 0) = false := decide_eq_false c3
 clear c3
 have H' := mk_ H
 clear H
 go_enter Try.func21, Try.ntmps21
 go_wp2
 go_loopg [1, 5] k (fun kq v1 v5 w' => ∃ (x1_1 : Int) (x5_1 : Int), v1 = .int .i64 x1_1 ∧ v5 = .int .i64 x5_1 ∧ Aside0 (laws_szStationS.l0 kq l0 x1_1 x5_1 = some r) ∧ Aside0 (kq ≤ k) ∧ Aside0 (Below w.heap.size w w'))
 case atStart => exact ⟨(wrap64 (a1 - (l0.length : Int))), (0), (by first | rfl | (simp; done) | (simp [*]; done)), (by first | rfl | (simp; done) | (simp [*]; done)), H', ⟨Nat.le_refl _⟩, ⟨ub_ HB.out⟩⟩
 case round =>
  clear H'
  try clear c2
  try clear p2
  try clear c3
  try clear c3b0
  obtain ⟨x1_1, x5_1, rfl, rfl, HA, HK1, HB⟩ := hrel
  cases gk with
  | zero => exact absurd HA.out (by simp [laws_szStationS.l0])
  | succ k1 =>
   have H := HA.out
   clear HA
   simp only [laws_szStationS.l0] at H
   by_cases c4 : x5_1 < (l0.length : Int)
   rotate_left
   ·rw [if_neg c4] at H
    have c4b0 : decide (x5_1 < (l0.length : Int)) = false := decide_eq_false c4
    clear c4
    obtain rfl := Option.some.inj H
    go_wp2
    go_ret
    exact ⟨by first | rfl | (simp [errW_none, errW_some] <;> rfl) | (simp [*, errW_none, errW_some] <;> rfl), by repeat (first | (with_reducible first | exact HB.out | apply na_ | apply nn_ | apply nw_) | exact HB.out)⟩
   rw [if_pos c4] at H
   have c4b0 : decide (x5_1 < (l0.length : Int)) = true := decide_eq_true c4
   clear c4
   by_cases c5 : 0 ≤ x5_1
   rotate_left
   ·rw [if_neg c5] at H
    exact absurd H (by simp)
   rw [if_pos c5] at H
   have c5b0 : decide (0 ≤ x5_1) = true := decide_eq_true c5
   clear c5
   replace H := Option.bind_eq_some_iff.mp H
   obtain ⟨t104, A60, H⟩ := H
   replace H : (if t104 < 0 then (some (-1)) else (laws_szStationS.l0 k1 l0 t104 (wrap64 (x5_1 + 1)))) = some r := H
   have A6 := mk_ A60
   clear A60
   by_cases c7 : t104 < 0
   ·rw [if_pos c7] at H
    have c7b0 : decide (t104 < 0) = true := decide_eq_true c7
    clear c7
    obtain rfl := Option.some.inj H
    have p103 : 0 ≤ (x5_1 : Int) := of_decide_eq_true (by first | (with_reducible assumption) | assumption)
    have q103 : x5_1 < (l0.length : Int) := of_decide_eq_true (by first | (with_reducible assumption) | assumption)
    obtain ⟨ad103, A103_1, c103_1, e103, hx103_0, hx103_1, hl103_1, hi103_1⟩ := at_T89 HR0.out x5_1 p103 q103
    cases e103
    replace hx103_0 := (HB.out.cell (lc_ w _ hx103_0)).trans hx103_0
    replace hx103_1 := (HB.out.cell (lc_ w _ hx103_1)).trans hx103_1
    have HR103_1 := mk_ hi103_1
    have HC103_1 := mk_ hl103_1
    clear hi103_1 hl103_1
    replace p103 := eq_true p103
    replace q103 := eq_true q103
    go_wp2_with (first | ((with_reducible refine gate_callee (f := 60) rfl ?_); refine goesL_ (some 23) rfl rfl Try.func60 (by kernel_rfl) rfl #[.agg #[.int .i64 ((rd_T89 l0 x5_1).f0), .slice A103_1 ((rd_T89 l0 x5_1).f1).length c103_1], .int .i64 x1_1] rfl (by (try simp only [lm_, lo_, ln_]); first | done | rfl | (simp only [List.length_drop, List.length_take]; rfl)) ?_; (with_reducible refine (laws_szStation.calls ((rd_T89 l0 x5_1).f0) _ _ ((rd_T89 l0 x5_1).f1) x1_1 t104 _ ?side1 ?side2 A6.out).mono ?_); (case side1 => repeat (first | exact (Kd.C_below HR103_1.out HB.out) | (with_reducible refine Kd.C_alloc ?_ _) | (with_reducible refine Kd.C_drewN ?_ _) | (with_reducible refine Kd.C_drew ?_))); (case side2 => exact HC103_1.out); rintro e w8 ⟨rfl, hb⟩; refine ⟨_, rfl, ?_⟩; have n0_ := mk_ (below_step (ub_ HB.out) hb); clear HB; have HB := n0_; clear n0_; (try clear hb); (try clear hb2); (try clear hk); (try clear hi)))
    go_ret
    exact ⟨by first | rfl | (simp [errW_none, errW_some] <;> rfl) | (simp [*, errW_none, errW_some] <;> rfl), by repeat (first | (with_reducible first | exact HB.out | apply na_ | apply nn_ | apply nw_) | exact HB.out)⟩
   rw [if_neg c7] at H
   have c7b0 : decide (t104 < 0) = false := decide_eq_false c7
   clear c7
   have H' := mk_ H
   clear H
   have p103 : 0 ≤ (x5_1 : Int) := of_decide_eq_true (by first | (with_reducible assumption) | assumption)
   have q103 : x5_1 < (l0.length : Int) := of_decide_eq_true (by first | (with_reducible assumption) | assumption)
   obtain ⟨ad103, A103_1, c103_1, e103, hx103_0, hx103_1, hl103_1, hi103_1⟩ := at_T89 HR0.out x5_1 p103 q103
   cases e103
   replace hx103_0 := (HB.out.cell (lc_ w _ hx103_0)).trans hx103_0
   replace hx103_1 := (HB.out.cell (lc_ w _ hx103_1)).trans hx103_1
   have HR103_1 := mk_ hi103_1
   have HC103_1 := mk_ hl103_1
   clear hi103_1 hl103_1
   replace p103 := eq_true p103
   replace q103 := eq_true q103
   go_wp2_with (first | ((with_reducible refine gate_callee (f := 60) rfl ?_); refine goesL_ (some 23) rfl rfl Try.func60 (by kernel_rfl) rfl #[.agg #[.int .i64 ((rd_T89 l0 x5_1).f0), .slice A103_1 ((rd_T89 l0 x5_1).f1).length c103_1], .int .i64 x1_1] rfl (by (try simp only [lm_, lo_, ln_]); first | done | rfl | (simp only [List.length_drop, List.length_take]; rfl)) ?_; (with_reducible refine (laws_szStation.calls ((rd_T89 l0 x5_1).f0) _ _ ((rd_T89 l0 x5_1).f1) x1_1 t104 _ ?side1 ?side2 A6.out).mono ?_); (case side1 => repeat (first | exact (Kd.C_below HR103_1.out HB.out) | (with_reducible refine Kd.C_alloc ?_ _) | (with_reducible refine Kd.C_drewN ?_ _) | (with_reducible refine Kd.C_drew ?_))); (case side2 => exact HC103_1.out); rintro e w9 ⟨rfl, hb⟩; refine ⟨_, rfl, ?_⟩; have n0_ := mk_ (below_step (ub_ HB.out) hb); clear HB; have HB := n0_; clear n0_; (try clear hb); (try clear hb2); (try clear hk); (try clear hi)))
   go_roundg k1
   case measure => have := HK1.out; omega
   case rel => exact ⟨(t104), (wrap64 (x5_1 + 1)), (by first | rfl | (simp; done) | (simp [*]; done)), (by first | rfl | (simp; done) | (simp [*]; done)), H', ⟨by have := HK1.out; omega⟩, ⟨ub_ HB.out⟩⟩

/-! ### spec_l1In: function 52 -/
def spec_l1In.f (a0 : Int) (a1 : Int) (a2 : Int) : Option (Bool) := if a0 ≥ a1 then (some (decide (a0 ≤ a2))) else (some false)
set_option maxHeartbeats 8000000 in
set_option maxRecDepth 100000 in
theorem spec_l1In.calls (a0 : Int) (a1 : Int) (a2 : Int) (r : Bool) (w : World) (h : spec_l1In.f a0 a1 a2 = some r) :
  Calls Try.prog 52 #[.int .i64 a0, .int .i64 a1, .int .i64 a2] w fun e w' => e = .returned (.bool r) ∧ Drawn0 w w' := by
 have H : (if a0 ≥ a1 then (some (decide (a0 ≤ a2))) else (some false)) = some r := h
 clear h
 by_cases c4 : a0 ≥ a1
 ·rw [if_pos c4] at H
  have c4b0 : decide (a1 ≤ a0) = true := decide_eq_true c4
  clear c4
  obtain rfl := Option.some.inj H
  go_enter Try.func52, Try.ntmps52
  go_wp2
  go_ret
  exact ⟨by first | rfl | (simp; done) | (simp [*]; done), by repeat (first | exact Drawn0.refl _ | apply Drawn0.step)⟩
 rw [if_neg c4] at H
 have c4b0 : decide (a1 ≤ a0) = false := decide_eq_false c4
 clear c4
 obtain rfl := Option.some.inj H
 go_enter Try.func52, Try.ntmps52
 go_wp2
 go_ret
 exact ⟨by first | rfl | (simp; done) | (simp [*]; done), by repeat (first | exact Drawn0.refl _ | apply Drawn0.step)⟩

/-! ### spec_l6Rest: function 147 -/
def spec_l6Rest.f (a0 : Int) : Option (Int) := if 0 ≤ (wrap64 (16 - a0)) then (some (shl .i64 1 (wrap64 (16 - a0)))) else (none)
set_option maxHeartbeats 8000000 in
set_option maxRecDepth 100000 in
theorem spec_l6Rest.calls (a0 : Int) (r : Int) (w : World) (h : spec_l6Rest.f a0 = some r) :
  Calls Try.prog 147 #[.int .i64 a0] w fun e w' => e = .returned (.int .i64 r) ∧ Drawn0 w w' := by
 have H : (if 0 ≤ (wrap64 (16 - a0)) then (some (shl .i64 1 (wrap64 (16 - a0)))) else (none)) = some r := h
 clear h
 obtain ⟨ji2, hji2⟩ : ∃ j_ : Int, (wrap64 (16 - a0)) = j_ := ⟨_, rfl⟩
 replace H : (if 0 ≤ (ji2) then (some (shl .i64 1 (ji2))) else (none)) = some r := by first | (rw [hji2] at H; exact H) | (simp only [hji2] at H ⊢; exact H)
 have hji2w : (IntKind.i64.wrap (16 - a0)) = ji2 := (i64_w _).trans hji2
 by_cases c3 : 0 ≤ (ji2)
 rotate_left
 ·rw [if_neg c3] at H
  exact absurd H (by simp)
 rw [if_pos c3] at H
 have c3b0 := eq_true c3
 have c3b1 : decide (0 ≤ (ji2)) = true := decide_eq_true c3
 clear c3
 obtain ⟨ji4, hji4⟩ : ∃ j_ : Int, (shl .i64 1 (ji2)) = j_ := ⟨_, rfl⟩
 replace H : (some ji4) = some r := by first | (rw [hji4] at H; exact H) | (simp only [hji4] at H ⊢; exact H)
 have hji4_ : (IntKind.i64.wrap (1 * 2 ^ min (ji2).toNat 64)) = ji4 := hji4
 have hji4z : (ji2) ≤ 64 → (IntKind.i64.wrap (1 * 2 ^ (ji2).toNat)) = ji4 := shl_small hji4
 have hji4u : (IntKind.i64.wrap (2 ^ min (ji2).toNat 64)) = ji4 := by have h_ := hji4_; rw [Int.one_mul] at h_; exact h_
 have hji4v : (ji2) ≤ 64 → (IntKind.i64.wrap (2 ^ (ji2).toNat)) = ji4 := fun hle_ => by have h_ := hji4z hle_; rw [Int.one_mul] at h_; exact h_
 have hji4y : (wrap64 (1 * 2 ^ min (ji2).toNat 64)) = ji4 := (i64_w _).symm.trans hji4_
 have hji4x : (ji2) ≤ 64 → (wrap64 (1 * 2 ^ (ji2).toNat)) = ji4 := fun h_ => (i64_w _).symm.trans (hji4z h_)
 obtain rfl := Option.some.inj H
 go_enter Try.func147, Try.ntmps147
 go_wp2
 go_ret
 exact ⟨by first | rfl | (simp; done) | (simp only [← hji2, ← hji4] <;> (first | rfl | simp)) | (simp [*]; done), by repeat (first | exact Drawn0.refl _ | apply Drawn0.step)⟩

/-! ### spec_RouteOk: function 121 -/
def spec_RouteOk.f (a0_0 : Int) (a0_1 : Int) (a0_2 : Int) (a0_3 : Int) : Option (Bool) := (spec_l1In.f a0_1 0 16).bind fun t106 => (if t106 = true then ((spec_l1In.f a0_0 0 65535).bind fun t107 => (if t107 = true then ((spec_l6Rest.f a0_1).bind fun t108 => (if t108 = 0 then (none) else (if (Int.tmod a0_0 t108) = 0 then ((spec_l1In.f a0_2 0 65535).bind fun t109 => (if t109 = true then ((spec_l1In.f a0_3 1 48).bind fun t110 => (some t110)) else (some false))) else (some false)))) else (some false))) else (some false))
set_option maxHeartbeats 8000000 in
set_option maxRecDepth 100000 in
theorem spec_RouteOk.calls (a0_0 : Int) (a0_1 : Int) (a0_2 : Int) (a0_3 : Int) (r : Bool) (w : World) (h : spec_RouteOk.f a0_0 a0_1 a0_2 a0_3 = some r) :
  Calls Try.prog 121 #[.agg #[.int .i64 a0_0, .int .i64 a0_1, .int .i64 a0_2, .int .i64 a0_3]] w fun e w' => e = .returned (.bool r) ∧ Below w.heap.size w w' := by
 have hu51 := Try.underlying51
 have HB := mk_ (Below.refl w.heap.size w)
 have H : ((spec_l1In.f a0_1 0 16).bind fun t106 => (if t106 = true then ((spec_l1In.f a0_0 0 65535).bind fun t107 => (if t107 = true then ((spec_l6Rest.f a0_1).bind fun t108 => (if t108 = 0 then (none) else (if (Int.tmod a0_0 t108) = 0 then ((spec_l1In.f a0_2 0 65535).bind fun t109 => (if t109 = true then ((spec_l1In.f a0_3 1 48).bind fun t110 => (some t110)) else (some false))) else (some false)))) else (some false))) else (some false))) = some r := h
 clear h
 replace H := Option.bind_eq_some_iff.mp H
 obtain ⟨t106, A20, H⟩ := H
 replace H : (if t106 = true then ((spec_l1In.f a0_0 0 65535).bind fun t107 => (if t107 = true then ((spec_l6Rest.f a0_1).bind fun t108 => (if t108 = 0 then (none) else (if (Int.tmod a0_0 t108) = 0 then ((spec_l1In.f a0_2 0 65535).bind fun t109 => (if t109 = true then ((spec_l1In.f a0_3 1 48).bind fun t110 => (some t110)) else (some false))) else (some false)))) else (some false))) else (some false)) = some r := H
 have A2 := mk_ A20
 clear A20
 by_cases c3 : t106 = true
 rotate_left
 ·replace c3 := Bool.eq_false_iff.mpr c3
  subst c3
  have H1 : (some false) = some r := by rw [if_neg (show ¬ (false = true) by decide)] at H; exact H
  clear H
  have H := H1
  clear H1
  obtain rfl := Option.some.inj H
  go_enter Try.func121, Try.ntmps121
  go_wp2_with (first | ((with_reducible refine gate_dst (N := 1) rfl ?_); refine box_event ?hg (N := 1) ?hd (cs := #[.int .i64 a0_0, .int .i64 a0_1, .int .i64 a0_2, .int .i64 a0_3]) (t := 51) ?hr ?_; (case hd => rfl); (case hg => rfl); (case hr => first | (go_simp; done) | (go_simp; rfl)); intro gb105 hg w20 hbox hb; have n0_ := mk_ (below_step (ub_ HB.out) hb); have n1_ := mk_ (hbox); have n2_ := mk_ ((by rw [hg]; exact (below_size (ub_ HB.out)) : w.heap.size ≤ gb105)); have n3_ := mk_ ((by rw [hg]; exact (below_size (ub_ HB.out)) : w.heap.size ≤ gb105)); clear HB; have HB := n0_; have BK105 := n1_; have GW105 := n2_; have GE105 := ge_ n3_.out; clear n0_ n1_ n2_ n3_; clear hb hbox hg; obtain ⟨hcz21_0, hcz21_1, hcz21_2, hcz21_3, hfz21_0, hfz21_1, hfz21_2, hfz21_3⟩ := cells4_ BK105.out) | (go_at_call 52; (with_reducible refine (spec_l1In.calls a0_1 0 16 false _ A2.out).mono ?_); rintro e w' ⟨rfl, ⟨nd, rfl⟩⟩; (try first | exact ⟨rfl, _, World.drewN_drewN _ _ _⟩ | exact ⟨rfl, _, Eq.trans (World.drewN_drewN _ _ _) (congrArg (World.drewN _) (Nat.add_assoc _ _ _))⟩)))
  repeat (go_quiet (first | ((with_reducible refine gate_dst (N := 1) rfl ?_); refine box_event ?hg (N := 1) ?hd (cs := #[.int .i64 a0_0, .int .i64 a0_1, .int .i64 a0_2, .int .i64 a0_3]) (t := 51) ?hr ?_; (case hd => rfl); (case hg => rfl); (case hr => first | (go_simp; done) | (go_simp; rfl)); intro gb105 hg w20 hbox hb; have n0_ := mk_ (below_step (ub_ HB.out) hb); have n1_ := mk_ (hbox); have n2_ := mk_ ((by rw [hg]; exact (below_size (ub_ HB.out)) : w.heap.size ≤ gb105)); have n3_ := mk_ ((by rw [hg]; exact (below_size (ub_ HB.out)) : w.heap.size ≤ gb105)); clear HB; have HB := n0_; have BK105 := n1_; have GW105 := n2_; have GE105 := ge_ n3_.out; clear n0_ n1_ n2_ n3_; clear hb hbox hg; obtain ⟨hcz21_0, hcz21_1, hcz21_2, hcz21_3, hfz21_0, hfz21_1, hfz21_2, hfz21_3⟩ := cells4_ BK105.out) | (go_at_call 52; (with_reducible refine (spec_l1In.calls a0_1 0 16 false _ A2.out).mono ?_); rintro e w' ⟨rfl, ⟨nd, rfl⟩⟩; (try first | exact ⟨rfl, _, World.drewN_drewN _ _ _⟩ | exact ⟨rfl, _, Eq.trans (World.drewN_drewN _ _ _) (congrArg (World.drewN _) (Nat.add_assoc _ _ _))⟩))); try go_wp2_with (first | ((with_reducible refine gate_dst (N := 1) rfl ?_); refine box_event ?hg (N := 1) ?hd (cs := #[.int .i64 a0_0, .int .i64 a0_1, .int .i64 a0_2, .int .i64 a0_3]) (t := 51) ?hr ?_; (case hd => rfl); (case hg => rfl); (case hr => first | (go_simp; done) | (go_simp; rfl)); intro gb105 hg w20 hbox hb; have n0_ := mk_ (below_step (ub_ HB.out) hb); have n1_ := mk_ (hbox); have n2_ := mk_ ((by rw [hg]; exact (below_size (ub_ HB.out)) : w.heap.size ≤ gb105)); have n3_ := mk_ ((by rw [hg]; exact (below_size (ub_ HB.out)) : w.heap.size ≤ gb105)); clear HB; have HB := n0_; have BK105 := n1_; have GW105 := n2_; have GE105 := ge_ n3_.out; clear n0_ n1_ n2_ n3_; clear hb hbox hg; obtain ⟨hcz21_0, hcz21_1, hcz21_2, hcz21_3, hfz21_0, hfz21_1, hfz21_2, hfz21_3⟩ := cells4_ BK105.out) | (go_at_call 52; (with_reducible refine (spec_l1In.calls a0_1 0 16 false _ A2.out).mono ?_); rintro e w' ⟨rfl, ⟨nd, rfl⟩⟩; (try first | exact ⟨rfl, _, World.drewN_drewN _ _ _⟩ | exact ⟨rfl, _, Eq.trans (World.drewN_drewN _ _ _) (congrArg (World.drewN _) (Nat.add_assoc _ _ _))⟩))))
  go_ret
  exact ⟨by first | rfl | (simp [errW_none, errW_some] <;> rfl) | (simp [*, errW_none, errW_some] <;> rfl), us_ HB.out⟩
 subst c3
 have H1 : ((spec_l1In.f a0_0 0 65535).bind fun t107 => (if t107 = true then ((spec_l6Rest.f a0_1).bind fun t108 => (if t108 = 0 then (none) else (if (Int.tmod a0_0 t108) = 0 then ((spec_l1In.f a0_2 0 65535).bind fun t109 => (if t109 = true then ((spec_l1In.f a0_3 1 48).bind fun t110 => (some t110)) else (some false))) else (some false)))) else (some false))) = some r := by rw [if_pos rfl] at H; exact H
 clear H
 have H := H1
 clear H1
 replace H := Option.bind_eq_some_iff.mp H
 obtain ⟨t107, A40, H⟩ := H
 replace H : (if t107 = true then ((spec_l6Rest.f a0_1).bind fun t108 => (if t108 = 0 then (none) else (if (Int.tmod a0_0 t108) = 0 then ((spec_l1In.f a0_2 0 65535).bind fun t109 => (if t109 = true then ((spec_l1In.f a0_3 1 48).bind fun t110 => (some t110)) else (some false))) else (some false)))) else (some false)) = some r := H
 have A4 := mk_ A40
 clear A40
 by_cases c5 : t107 = true
 rotate_left
 ·replace c5 := Bool.eq_false_iff.mpr c5
  subst c5
  have H1 : (some false) = some r := by rw [if_neg (show ¬ (false = true) by decide)] at H; exact H
  clear H
  have H := H1
  clear H1
  obtain rfl := Option.some.inj H
  go_enter Try.func121, Try.ntmps121
  go_wp2_with (first | ((with_reducible refine gate_dst (N := 1) rfl ?_); refine box_event ?hg (N := 1) ?hd (cs := #[.int .i64 a0_0, .int .i64 a0_1, .int .i64 a0_2, .int .i64 a0_3]) (t := 51) ?hr ?_; (case hd => rfl); (case hg => rfl); (case hr => first | (go_simp; done) | (go_simp; rfl)); intro gb105 hg w18 hbox hb; have n0_ := mk_ (below_step (ub_ HB.out) hb); have n1_ := mk_ (hbox); have n2_ := mk_ ((by rw [hg]; exact (below_size (ub_ HB.out)) : w.heap.size ≤ gb105)); have n3_ := mk_ ((by rw [hg]; exact (below_size (ub_ HB.out)) : w.heap.size ≤ gb105)); clear HB; have HB := n0_; have BK105 := n1_; have GW105 := n2_; have GE105 := ge_ n3_.out; clear n0_ n1_ n2_ n3_; clear hb hbox hg; obtain ⟨hcz19_0, hcz19_1, hcz19_2, hcz19_3, hfz19_0, hfz19_1, hfz19_2, hfz19_3⟩ := cells4_ BK105.out) | (go_at_call 52; have hA_ := A2.out; (with_reducible refine (spec_l1In.calls a0_1 0 16 true _ A2.out).mono ?_); rintro e w' ⟨rfl, ⟨nd, rfl⟩⟩; (try first | exact ⟨rfl, _, World.drewN_drewN _ _ _⟩ | exact ⟨rfl, _, Eq.trans (World.drewN_drewN _ _ _) (congrArg (World.drewN _) (Nat.add_assoc _ _ _))⟩); clear hA_ A2) | (go_at_call 52; have hA_ := A4.out; (with_reducible refine (spec_l1In.calls a0_0 0 65535 false _ A4.out).mono ?_); rintro e w' ⟨rfl, ⟨nd, rfl⟩⟩; (try first | exact ⟨rfl, _, World.drewN_drewN _ _ _⟩ | exact ⟨rfl, _, Eq.trans (World.drewN_drewN _ _ _) (congrArg (World.drewN _) (Nat.add_assoc _ _ _))⟩); clear hA_ A4))
  repeat (go_quiet (first | ((with_reducible refine gate_dst (N := 1) rfl ?_); refine box_event ?hg (N := 1) ?hd (cs := #[.int .i64 a0_0, .int .i64 a0_1, .int .i64 a0_2, .int .i64 a0_3]) (t := 51) ?hr ?_; (case hd => rfl); (case hg => rfl); (case hr => first | (go_simp; done) | (go_simp; rfl)); intro gb105 hg w18 hbox hb; have n0_ := mk_ (below_step (ub_ HB.out) hb); have n1_ := mk_ (hbox); have n2_ := mk_ ((by rw [hg]; exact (below_size (ub_ HB.out)) : w.heap.size ≤ gb105)); have n3_ := mk_ ((by rw [hg]; exact (below_size (ub_ HB.out)) : w.heap.size ≤ gb105)); clear HB; have HB := n0_; have BK105 := n1_; have GW105 := n2_; have GE105 := ge_ n3_.out; clear n0_ n1_ n2_ n3_; clear hb hbox hg; obtain ⟨hcz19_0, hcz19_1, hcz19_2, hcz19_3, hfz19_0, hfz19_1, hfz19_2, hfz19_3⟩ := cells4_ BK105.out) | (go_at_call 52; (with_reducible refine (spec_l1In.calls a0_1 0 16 true _ A2.out).mono ?_); rintro e w' ⟨rfl, ⟨nd, rfl⟩⟩; (try first | exact ⟨rfl, _, World.drewN_drewN _ _ _⟩ | exact ⟨rfl, _, Eq.trans (World.drewN_drewN _ _ _) (congrArg (World.drewN _) (Nat.add_assoc _ _ _))⟩)) | (go_at_call 52; (with_reducible refine (spec_l1In.calls a0_0 0 65535 false _ A4.out).mono ?_); rintro e w' ⟨rfl, ⟨nd, rfl⟩⟩; (try first | exact ⟨rfl, _, World.drewN_drewN _ _ _⟩ | exact ⟨rfl, _, Eq.trans (World.drewN_drewN _ _ _) (congrArg (World.drewN _) (Nat.add_assoc _ _ _))⟩))); try go_wp2_with (first | ((with_reducible refine gate_dst (N := 1) rfl ?_); refine box_event ?hg (N := 1) ?hd (cs := #[.int .i64 a0_0, .int .i64 a0_1, .int .i64 a0_2, .int .i64 a0_3]) (t := 51) ?hr ?_; (case hd => rfl); (case hg => rfl); (case hr => first | (go_simp; done) | (go_simp; rfl)); intro gb105 hg w18 hbox hb; have n0_ := mk_ (below_step (ub_ HB.out) hb); have n1_ := mk_ (hbox); have n2_ := mk_ ((by rw [hg]; exact (below_size (ub_ HB.out)) : w.heap.size ≤ gb105)); have n3_ := mk_ ((by rw [hg]; exact (below_size (ub_ HB.out)) : w.heap.size ≤ gb105)); clear HB; have HB := n0_; have BK105 := n1_; have GW105 := n2_; have GE105 := ge_ n3_.out; clear n0_ n1_ n2_ n3_; clear hb hbox hg; obtain ⟨hcz19_0, hcz19_1, hcz19_2, hcz19_3, hfz19_0, hfz19_1, hfz19_2, hfz19_3⟩ := cells4_ BK105.out) | (go_at_call 52; (with_reducible refine (spec_l1In.calls a0_1 0 16 true _ A2.out).mono ?_); rintro e w' ⟨rfl, ⟨nd, rfl⟩⟩; (try first | exact ⟨rfl, _, World.drewN_drewN _ _ _⟩ | exact ⟨rfl, _, Eq.trans (World.drewN_drewN _ _ _) (congrArg (World.drewN _) (Nat.add_assoc _ _ _))⟩)) | (go_at_call 52; (with_reducible refine (spec_l1In.calls a0_0 0 65535 false _ A4.out).mono ?_); rintro e w' ⟨rfl, ⟨nd, rfl⟩⟩; (try first | exact ⟨rfl, _, World.drewN_drewN _ _ _⟩ | exact ⟨rfl, _, Eq.trans (World.drewN_drewN _ _ _) (congrArg (World.drewN _) (Nat.add_assoc _ _ _))⟩))))
  go_ret
  exact ⟨by first | rfl | (simp [errW_none, errW_some] <;> rfl) | (simp [*, errW_none, errW_some] <;> rfl), us_ HB.out⟩
 subst c5
 have H1 : ((spec_l6Rest.f a0_1).bind fun t108 => (if t108 = 0 then (none) else (if (Int.tmod a0_0 t108) = 0 then ((spec_l1In.f a0_2 0 65535).bind fun t109 => (if t109 = true then ((spec_l1In.f a0_3 1 48).bind fun t110 => (some t110)) else (some false))) else (some false)))) = some r := by rw [if_pos rfl] at H; exact H
 clear H
 have H := H1
 clear H1
 replace H := Option.bind_eq_some_iff.mp H
 obtain ⟨t108, A60, H⟩ := H
 replace H : (if t108 = 0 then (none) else (if (Int.tmod a0_0 t108) = 0 then ((spec_l1In.f a0_2 0 65535).bind fun t109 => (if t109 = true then ((spec_l1In.f a0_3 1 48).bind fun t110 => (some t110)) else (some false))) else (some false))) = some r := H
 have A6 := mk_ A60
 clear A60
 by_cases c7 : t108 = 0
 ·rw [if_pos c7] at H
  exact absurd H (by simp)
 rw [if_neg c7] at H
 have c7b0 : (t108 == 0) = false := beq_eq_false_iff_ne.mpr c7
 have c7b1 : (t108 != 0) = true := bne_iff_ne.mpr c7
 by_cases c8 : (Int.tmod a0_0 t108) = 0
 rotate_left
 ·rw [if_neg c8] at H
  have c8b0 : ((Int.tmod a0_0 t108) == 0) = false := beq_eq_false_iff_ne.mpr c8
  have c8b1 : ((Int.tmod a0_0 t108) != 0) = true := bne_iff_ne.mpr c8
  obtain rfl := Option.some.inj H
  go_enter Try.func121, Try.ntmps121
  go_wp2_with (first | ((with_reducible refine gate_dst (N := 1) rfl ?_); refine box_event ?hg (N := 1) ?hd (cs := #[.int .i64 a0_0, .int .i64 a0_1, .int .i64 a0_2, .int .i64 a0_3]) (t := 51) ?hr ?_; (case hd => rfl); (case hg => rfl); (case hr => first | (go_simp; done) | (go_simp; rfl)); intro gb105 hg w16 hbox hb; have n0_ := mk_ (below_step (ub_ HB.out) hb); have n1_ := mk_ (hbox); have n2_ := mk_ ((by rw [hg]; exact (below_size (ub_ HB.out)) : w.heap.size ≤ gb105)); have n3_ := mk_ ((by rw [hg]; exact (below_size (ub_ HB.out)) : w.heap.size ≤ gb105)); clear HB; have HB := n0_; have BK105 := n1_; have GW105 := n2_; have GE105 := ge_ n3_.out; clear n0_ n1_ n2_ n3_; clear hb hbox hg; obtain ⟨hcz17_0, hcz17_1, hcz17_2, hcz17_3, hfz17_0, hfz17_1, hfz17_2, hfz17_3⟩ := cells4_ BK105.out) | (go_at_call 52; have hA_ := A2.out; (with_reducible refine (spec_l1In.calls a0_1 0 16 true _ A2.out).mono ?_); rintro e w' ⟨rfl, ⟨nd, rfl⟩⟩; (try first | exact ⟨rfl, _, World.drewN_drewN _ _ _⟩ | exact ⟨rfl, _, Eq.trans (World.drewN_drewN _ _ _) (congrArg (World.drewN _) (Nat.add_assoc _ _ _))⟩); clear hA_ A2) | (go_at_call 52; have hA_ := A4.out; (with_reducible refine (spec_l1In.calls a0_0 0 65535 true _ A4.out).mono ?_); rintro e w' ⟨rfl, ⟨nd, rfl⟩⟩; (try first | exact ⟨rfl, _, World.drewN_drewN _ _ _⟩ | exact ⟨rfl, _, Eq.trans (World.drewN_drewN _ _ _) (congrArg (World.drewN _) (Nat.add_assoc _ _ _))⟩); clear hA_ A4) | (go_at_call 147; (with_reducible refine (spec_l6Rest.calls a0_1 t108 _ A6.out).mono ?_); rintro e w' ⟨rfl, ⟨nd, rfl⟩⟩; (try first | exact ⟨rfl, _, World.drewN_drewN _ _ _⟩ | exact ⟨rfl, _, Eq.trans (World.drewN_drewN _ _ _) (congrArg (World.drewN _) (Nat.add_assoc _ _ _))⟩)))
  repeat (go_quiet (first | ((with_reducible refine gate_dst (N := 1) rfl ?_); refine box_event ?hg (N := 1) ?hd (cs := #[.int .i64 a0_0, .int .i64 a0_1, .int .i64 a0_2, .int .i64 a0_3]) (t := 51) ?hr ?_; (case hd => rfl); (case hg => rfl); (case hr => first | (go_simp; done) | (go_simp; rfl)); intro gb105 hg w16 hbox hb; have n0_ := mk_ (below_step (ub_ HB.out) hb); have n1_ := mk_ (hbox); have n2_ := mk_ ((by rw [hg]; exact (below_size (ub_ HB.out)) : w.heap.size ≤ gb105)); have n3_ := mk_ ((by rw [hg]; exact (below_size (ub_ HB.out)) : w.heap.size ≤ gb105)); clear HB; have HB := n0_; have BK105 := n1_; have GW105 := n2_; have GE105 := ge_ n3_.out; clear n0_ n1_ n2_ n3_; clear hb hbox hg; obtain ⟨hcz17_0, hcz17_1, hcz17_2, hcz17_3, hfz17_0, hfz17_1, hfz17_2, hfz17_3⟩ := cells4_ BK105.out) | (go_at_call 52; (with_reducible refine (spec_l1In.calls a0_1 0 16 true _ A2.out).mono ?_); rintro e w' ⟨rfl, ⟨nd, rfl⟩⟩; (try first | exact ⟨rfl, _, World.drewN_drewN _ _ _⟩ | exact ⟨rfl, _, Eq.trans (World.drewN_drewN _ _ _) (congrArg (World.drewN _) (Nat.add_assoc _ _ _))⟩)) | (go_at_call 52; (with_reducible refine (spec_l1In.calls a0_0 0 65535 true _ A4.out).mono ?_); rintro e w' ⟨rfl, ⟨nd, rfl⟩⟩; (try first | exact ⟨rfl, _, World.drewN_drewN _ _ _⟩ | exact ⟨rfl, _, Eq.trans (World.drewN_drewN _ _ _) (congrArg (World.drewN _) (Nat.add_assoc _ _ _))⟩)) | (go_at_call 147; (with_reducible refine (spec_l6Rest.calls a0_1 t108 _ A6.out).mono ?_); rintro e w' ⟨rfl, ⟨nd, rfl⟩⟩; (try first | exact ⟨rfl, _, World.drewN_drewN _ _ _⟩ | exact ⟨rfl, _, Eq.trans (World.drewN_drewN _ _ _) (congrArg (World.drewN _) (Nat.add_assoc _ _ _))⟩))); try go_wp2_with (first | ((with_reducible refine gate_dst (N := 1) rfl ?_); refine box_event ?hg (N := 1) ?hd (cs := #[.int .i64 a0_0, .int .i64 a0_1, .int .i64 a0_2, .int .i64 a0_3]) (t := 51) ?hr ?_; (case hd => rfl); (case hg => rfl); (case hr => first | (go_simp; done) | (go_simp; rfl)); intro gb105 hg w16 hbox hb; have n0_ := mk_ (below_step (ub_ HB.out) hb); have n1_ := mk_ (hbox); have n2_ := mk_ ((by rw [hg]; exact (below_size (ub_ HB.out)) : w.heap.size ≤ gb105)); have n3_ := mk_ ((by rw [hg]; exact (below_size (ub_ HB.out)) : w.heap.size ≤ gb105)); clear HB; have HB := n0_; have BK105 := n1_; have GW105 := n2_; have GE105 := ge_ n3_.out; clear n0_ n1_ n2_ n3_; clear hb hbox hg; obtain ⟨hcz17_0, hcz17_1, hcz17_2, hcz17_3, hfz17_0, hfz17_1, hfz17_2, hfz17_3⟩ := cells4_ BK105.out) | (go_at_call 52; (with_reducible refine (spec_l1In.calls a0_1 0 16 true _ A2.out).mono ?_); rintro e w' ⟨rfl, ⟨nd, rfl⟩⟩; (try first | exact ⟨rfl, _, World.drewN_drewN _ _ _⟩ | exact ⟨rfl, _, Eq.trans (World.drewN_drewN _ _ _) (congrArg (World.drewN _) (Nat.add_assoc _ _ _))⟩)) | (go_at_call 52; (with_reducible refine (spec_l1In.calls a0_0 0 65535 true _ A4.out).mono ?_); rintro e w' ⟨rfl, ⟨nd, rfl⟩⟩; (try first | exact ⟨rfl, _, World.drewN_drewN _ _ _⟩ | exact ⟨rfl, _, Eq.trans (World.drewN_drewN _ _ _) (congrArg (World.drewN _) (Nat.add_assoc _ _ _))⟩)) | (go_at_call 147; (with_reducible refine (spec_l6Rest.calls a0_1 t108 _ A6.out).mono ?_); rintro e w' ⟨rfl, ⟨nd, rfl⟩⟩; (try first | exact ⟨rfl, _, World.drewN_drewN _ _ _⟩ | exact ⟨rfl, _, Eq.trans (World.drewN_drewN _ _ _) (congrArg (World.drewN _) (Nat.add_assoc _ _ _))⟩))))
  go_ret
  exact ⟨by first | rfl | (simp [errW_none, errW_some] <;> rfl) | (simp [*, errW_none, errW_some] <;> rfl), us_ HB.out⟩
 rw [if_pos c8] at H
 have c8b0 : ((Int.tmod a0_0 t108) == 0) = true := beq_iff_eq.mpr c8
 have c8b1 : ((Int.tmod a0_0 t108) != 0) = false := bne_eq_false_iff_eq.mpr c8
 clear c8
 replace H := Option.bind_eq_some_iff.mp H
 obtain ⟨t109, A90, H⟩ := H
 replace H : (if t109 = true then ((spec_l1In.f a0_3 1 48).bind fun t110 => (some t110)) else (some false)) = some r := H
 have A9 := mk_ A90
 clear A90
 by_cases c10 : t109 = true
 rotate_left
 ·replace c10 := Bool.eq_false_iff.mpr c10
  subst c10
  have H1 : (some false) = some r := by rw [if_neg (show ¬ (false = true) by decide)] at H; exact H
  clear H
  have H := H1
  clear H1
  obtain rfl := Option.some.inj H
  go_enter Try.func121, Try.ntmps121
  go_wp2_with (first | ((with_reducible refine gate_dst (N := 1) rfl ?_); refine box_event ?hg (N := 1) ?hd (cs := #[.int .i64 a0_0, .int .i64 a0_1, .int .i64 a0_2, .int .i64 a0_3]) (t := 51) ?hr ?_; (case hd => rfl); (case hg => rfl); (case hr => first | (go_simp; done) | (go_simp; rfl)); intro gb105 hg w14 hbox hb; have n0_ := mk_ (below_step (ub_ HB.out) hb); have n1_ := mk_ (hbox); have n2_ := mk_ ((by rw [hg]; exact (below_size (ub_ HB.out)) : w.heap.size ≤ gb105)); have n3_ := mk_ ((by rw [hg]; exact (below_size (ub_ HB.out)) : w.heap.size ≤ gb105)); clear HB; have HB := n0_; have BK105 := n1_; have GW105 := n2_; have GE105 := ge_ n3_.out; clear n0_ n1_ n2_ n3_; clear hb hbox hg; obtain ⟨hcz15_0, hcz15_1, hcz15_2, hcz15_3, hfz15_0, hfz15_1, hfz15_2, hfz15_3⟩ := cells4_ BK105.out) | (go_at_call 52; have hA_ := A2.out; (with_reducible refine (spec_l1In.calls a0_1 0 16 true _ A2.out).mono ?_); rintro e w' ⟨rfl, ⟨nd, rfl⟩⟩; (try first | exact ⟨rfl, _, World.drewN_drewN _ _ _⟩ | exact ⟨rfl, _, Eq.trans (World.drewN_drewN _ _ _) (congrArg (World.drewN _) (Nat.add_assoc _ _ _))⟩); clear hA_ A2) | (go_at_call 52; have hA_ := A4.out; (with_reducible refine (spec_l1In.calls a0_0 0 65535 true _ A4.out).mono ?_); rintro e w' ⟨rfl, ⟨nd, rfl⟩⟩; (try first | exact ⟨rfl, _, World.drewN_drewN _ _ _⟩ | exact ⟨rfl, _, Eq.trans (World.drewN_drewN _ _ _) (congrArg (World.drewN _) (Nat.add_assoc _ _ _))⟩); clear hA_ A4) | (go_at_call 147; (with_reducible refine (spec_l6Rest.calls a0_1 t108 _ A6.out).mono ?_); rintro e w' ⟨rfl, ⟨nd, rfl⟩⟩; (try first | exact ⟨rfl, _, World.drewN_drewN _ _ _⟩ | exact ⟨rfl, _, Eq.trans (World.drewN_drewN _ _ _) (congrArg (World.drewN _) (Nat.add_assoc _ _ _))⟩)) | (go_at_call 52; have hA_ := A9.out; (with_reducible refine (spec_l1In.calls a0_2 0 65535 false _ A9.out).mono ?_); rintro e w' ⟨rfl, ⟨nd, rfl⟩⟩; (try first | exact ⟨rfl, _, World.drewN_drewN _ _ _⟩ | exact ⟨rfl, _, Eq.trans (World.drewN_drewN _ _ _) (congrArg (World.drewN _) (Nat.add_assoc _ _ _))⟩); clear hA_ A9))
  repeat (go_quiet (first | ((with_reducible refine gate_dst (N := 1) rfl ?_); refine box_event ?hg (N := 1) ?hd (cs := #[.int .i64 a0_0, .int .i64 a0_1, .int .i64 a0_2, .int .i64 a0_3]) (t := 51) ?hr ?_; (case hd => rfl); (case hg => rfl); (case hr => first | (go_simp; done) | (go_simp; rfl)); intro gb105 hg w14 hbox hb; have n0_ := mk_ (below_step (ub_ HB.out) hb); have n1_ := mk_ (hbox); have n2_ := mk_ ((by rw [hg]; exact (below_size (ub_ HB.out)) : w.heap.size ≤ gb105)); have n3_ := mk_ ((by rw [hg]; exact (below_size (ub_ HB.out)) : w.heap.size ≤ gb105)); clear HB; have HB := n0_; have BK105 := n1_; have GW105 := n2_; have GE105 := ge_ n3_.out; clear n0_ n1_ n2_ n3_; clear hb hbox hg; obtain ⟨hcz15_0, hcz15_1, hcz15_2, hcz15_3, hfz15_0, hfz15_1, hfz15_2, hfz15_3⟩ := cells4_ BK105.out) | (go_at_call 52; (with_reducible refine (spec_l1In.calls a0_1 0 16 true _ A2.out).mono ?_); rintro e w' ⟨rfl, ⟨nd, rfl⟩⟩; (try first | exact ⟨rfl, _, World.drewN_drewN _ _ _⟩ | exact ⟨rfl, _, Eq.trans (World.drewN_drewN _ _ _) (congrArg (World.drewN _) (Nat.add_assoc _ _ _))⟩)) | (go_at_call 52; (with_reducible refine (spec_l1In.calls a0_0 0 65535 true _ A4.out).mono ?_); rintro e w' ⟨rfl, ⟨nd, rfl⟩⟩; (try first | exact ⟨rfl, _, World.drewN_drewN _ _ _⟩ | exact ⟨rfl, _, Eq.trans (World.drewN_drewN _ _ _) (congrArg (World.drewN _) (Nat.add_assoc _ _ _))⟩)) | (go_at_call 147; (with_reducible refine (spec_l6Rest.calls a0_1 t108 _ A6.out).mono ?_); rintro e w' ⟨rfl, ⟨nd, rfl⟩⟩; (try first | exact ⟨rfl, _, World.drewN_drewN _ _ _⟩ | exact ⟨rfl, _, Eq.trans (World.drewN_drewN _ _ _) (congrArg (World.drewN _) (Nat.add_assoc _ _ _))⟩)) | (go_at_call 52; (with_reducible refine (spec_l1In.calls a0_2 0 65535 false _ A9.out).mono ?_); rintro e w' ⟨rfl, ⟨nd, rfl⟩⟩; (try first | exact ⟨rfl, _, World.drewN_drewN _ _ _⟩ | exact ⟨rfl, _, Eq.trans (World.drewN_drewN _ _ _) (congrArg (World.drewN _) (Nat.add_assoc _ _ _))⟩))); try go_wp2_with (first | ((with_reducible refine gate_dst (N := 1) rfl ?_); refine box_event ?hg (N := 1) ?hd (cs := #[.int .i64 a0_0, .int .i64 a0_1, .int .i64 a0_2, .int .i64 a0_3]) (t := 51) ?hr ?_; (case hd => rfl); (case hg => rfl); (case hr => first | (go_simp; done) | (go_simp; rfl)); intro gb105 hg w14 hbox hb; have n0_ := mk_ (below_step (ub_ HB.out) hb); have n1_ := mk_ (hbox); have n2_ := mk_ ((by rw [hg]; exact (below_size (ub_ HB.out)) : w.heap.size ≤ gb105)); have n3_ := mk_ ((by rw [hg]; exact (below_size (ub_ HB.out)) : w.heap.size ≤ gb105)); clear HB; have HB := n0_; have BK105 := n1_; have GW105 := n2_; have GE105 := ge_ n3_.out; clear n0_ n1_ n2_ n3_; clear hb hbox hg; obtain ⟨hcz15_0, hcz15_1, hcz15_2, hcz15_3, hfz15_0, hfz15_1, hfz15_2, hfz15_3⟩ := cells4_ BK105.out) | (go_at_call 52; (with_reducible refine (spec_l1In.calls a0_1 0 16 true _ A2.out).mono ?_); rintro e w' ⟨rfl, ⟨nd, rfl⟩⟩; (try first | exact ⟨rfl, _, World.drewN_drewN _ _ _⟩ | exact ⟨rfl, _, Eq.trans (World.drewN_drewN _ _ _) (congrArg (World.drewN _) (Nat.add_assoc _ _ _))⟩)) | (go_at_call 52; (with_reducible refine (spec_l1In.calls a0_0 0 65535 true _ A4.out).mono ?_); rintro e w' ⟨rfl, ⟨nd, rfl⟩⟩; (try first | exact ⟨rfl, _, World.drewN_drewN _ _ _⟩ | exact ⟨rfl, _, Eq.trans (World.drewN_drewN _ _ _) (congrArg (World.drewN _) (Nat.add_assoc _ _ _))⟩)) | (go_at_call 147; (with_reducible refine (spec_l6Rest.calls a0_1 t108 _ A6.out).mono ?_); rintro e w' ⟨rfl, ⟨nd, rfl⟩⟩; (try first | exact ⟨rfl, _, World.drewN_drewN _ _ _⟩ | exact ⟨rfl, _, Eq.trans (World.drewN_drewN _ _ _) (congrArg (World.drewN _) (Nat.add_assoc _ _ _))⟩)) | (go_at_call 52; (with_reducible refine (spec_l1In.calls a0_2 0 65535 false _ A9.out).mono ?_); rintro e w' ⟨rfl, ⟨nd, rfl⟩⟩; (try first | exact ⟨rfl, _, World.drewN_drewN _ _ _⟩ | exact ⟨rfl, _, Eq.trans (World.drewN_drewN _ _ _) (congrArg (World.drewN _) (Nat.add_assoc _ _ _))⟩))))
  go_ret
  exact ⟨by first | rfl | (simp [errW_none, errW_some] <;> rfl) | (simp [*, errW_none, errW_some] <;> rfl), us_ HB.out⟩
 subst c10
 have H1 : ((spec_l1In.f a0_3 1 48).bind fun t110 => (some t110)) = some r := by rw [if_pos rfl] at H; exact H
 clear H
 have H := H1
 clear H1
 replace H := Option.bind_eq_some_iff.mp H
 obtain ⟨t110, A110, H⟩ := H
 replace H : (some t110) = some r := H
 have A11 := mk_ A110
 clear A110
 obtain rfl := Option.some.inj H
 go_enter Try.func121, Try.ntmps121
 go_wp2_with (first | ((with_reducible refine gate_dst (N := 1) rfl ?_); refine box_event ?hg (N := 1) ?hd (cs := #[.int .i64 a0_0, .int .i64 a0_1, .int .i64 a0_2, .int .i64 a0_3]) (t := 51) ?hr ?_; (case hd => rfl); (case hg => rfl); (case hr => first | (go_simp; done) | (go_simp; rfl)); intro gb105 hg w12 hbox hb; have n0_ := mk_ (below_step (ub_ HB.out) hb); have n1_ := mk_ (hbox); have n2_ := mk_ ((by rw [hg]; exact (below_size (ub_ HB.out)) : w.heap.size ≤ gb105)); have n3_ := mk_ ((by rw [hg]; exact (below_size (ub_ HB.out)) : w.heap.size ≤ gb105)); clear HB; have HB := n0_; have BK105 := n1_; have GW105 := n2_; have GE105 := ge_ n3_.out; clear n0_ n1_ n2_ n3_; clear hb hbox hg; obtain ⟨hcz13_0, hcz13_1, hcz13_2, hcz13_3, hfz13_0, hfz13_1, hfz13_2, hfz13_3⟩ := cells4_ BK105.out) | (go_at_call 52; have hA_ := A2.out; (with_reducible refine (spec_l1In.calls a0_1 0 16 true _ A2.out).mono ?_); rintro e w' ⟨rfl, ⟨nd, rfl⟩⟩; (try first | exact ⟨rfl, _, World.drewN_drewN _ _ _⟩ | exact ⟨rfl, _, Eq.trans (World.drewN_drewN _ _ _) (congrArg (World.drewN _) (Nat.add_assoc _ _ _))⟩); clear hA_ A2) | (go_at_call 52; have hA_ := A4.out; (with_reducible refine (spec_l1In.calls a0_0 0 65535 true _ A4.out).mono ?_); rintro e w' ⟨rfl, ⟨nd, rfl⟩⟩; (try first | exact ⟨rfl, _, World.drewN_drewN _ _ _⟩ | exact ⟨rfl, _, Eq.trans (World.drewN_drewN _ _ _) (congrArg (World.drewN _) (Nat.add_assoc _ _ _))⟩); clear hA_ A4) | (go_at_call 147; (with_reducible refine (spec_l6Rest.calls a0_1 t108 _ A6.out).mono ?_); rintro e w' ⟨rfl, ⟨nd, rfl⟩⟩; (try first | exact ⟨rfl, _, World.drewN_drewN _ _ _⟩ | exact ⟨rfl, _, Eq.trans (World.drewN_drewN _ _ _) (congrArg (World.drewN _) (Nat.add_assoc _ _ _))⟩)) | (go_at_call 52; have hA_ := A9.out; (with_reducible refine (spec_l1In.calls a0_2 0 65535 true _ A9.out).mono ?_); rintro e w' ⟨rfl, ⟨nd, rfl⟩⟩; (try first | exact ⟨rfl, _, World.drewN_drewN _ _ _⟩ | exact ⟨rfl, _, Eq.trans (World.drewN_drewN _ _ _) (congrArg (World.drewN _) (Nat.add_assoc _ _ _))⟩); clear hA_ A9) | (go_at_call 52; have hA_ := A11.out; (with_reducible refine (spec_l1In.calls a0_3 1 48 t110 _ A11.out).mono ?_); rintro e w' ⟨rfl, ⟨nd, rfl⟩⟩; (try first | exact ⟨rfl, _, World.drewN_drewN _ _ _⟩ | exact ⟨rfl, _, Eq.trans (World.drewN_drewN _ _ _) (congrArg (World.drewN _) (Nat.add_assoc _ _ _))⟩); clear hA_ A11))
 repeat (go_quiet (first | ((with_reducible refine gate_dst (N := 1) rfl ?_); refine box_event ?hg (N := 1) ?hd (cs := #[.int .i64 a0_0, .int .i64 a0_1, .int .i64 a0_2, .int .i64 a0_3]) (t := 51) ?hr ?_; (case hd => rfl); (case hg => rfl); (case hr => first | (go_simp; done) | (go_simp; rfl)); intro gb105 hg w12 hbox hb; have n0_ := mk_ (below_step (ub_ HB.out) hb); have n1_ := mk_ (hbox); have n2_ := mk_ ((by rw [hg]; exact (below_size (ub_ HB.out)) : w.heap.size ≤ gb105)); have n3_ := mk_ ((by rw [hg]; exact (below_size (ub_ HB.out)) : w.heap.size ≤ gb105)); clear HB; have HB := n0_; have BK105 := n1_; have GW105 := n2_; have GE105 := ge_ n3_.out; clear n0_ n1_ n2_ n3_; clear hb hbox hg; obtain ⟨hcz13_0, hcz13_1, hcz13_2, hcz13_3, hfz13_0, hfz13_1, hfz13_2, hfz13_3⟩ := cells4_ BK105.out) | (go_at_call 52; (with_reducible refine (spec_l1In.calls a0_1 0 16 true _ A2.out).mono ?_); rintro e w' ⟨rfl, ⟨nd, rfl⟩⟩; (try first | exact ⟨rfl, _, World.drewN_drewN _ _ _⟩ | exact ⟨rfl, _, Eq.trans (World.drewN_drewN _ _ _) (congrArg (World.drewN _) (Nat.add_assoc _ _ _))⟩)) | (go_at_call 52; (with_reducible refine (spec_l1In.calls a0_0 0 65535 true _ A4.out).mono ?_); rintro e w' ⟨rfl, ⟨nd, rfl⟩⟩; (try first | exact ⟨rfl, _, World.drewN_drewN _ _ _⟩ | exact ⟨rfl, _, Eq.trans (World.drewN_drewN _ _ _) (congrArg (World.drewN _) (Nat.add_assoc _ _ _))⟩)) | (go_at_call 147; (with_reducible refine (spec_l6Rest.calls a0_1 t108 _ A6.out).mono ?_); rintro e w' ⟨rfl, ⟨nd, rfl⟩⟩; (try first | exact ⟨rfl, _, World.drewN_drewN _ _ _⟩ | exact ⟨rfl, _, Eq.trans (World.drewN_drewN _ _ _) (congrArg (World.drewN _) (Nat.add_assoc _ _ _))⟩)) | (go_at_call 52; (with_reducible refine (spec_l1In.calls a0_2 0 65535 true _ A9.out).mono ?_); rintro e w' ⟨rfl, ⟨nd, rfl⟩⟩; (try first | exact ⟨rfl, _, World.drewN_drewN _ _ _⟩ | exact ⟨rfl, _, Eq.trans (World.drewN_drewN _ _ _) (congrArg (World.drewN _) (Nat.add_assoc _ _ _))⟩)) | (go_at_call 52; (with_reducible refine (spec_l1In.calls a0_3 1 48 t110 _ A11.out).mono ?_); rintro e w' ⟨rfl, ⟨nd, rfl⟩⟩; (try first | exact ⟨rfl, _, World.drewN_drewN _ _ _⟩ | exact ⟨rfl, _, Eq.trans (World.drewN_drewN _ _ _) (congrArg (World.drewN _) (Nat.add_assoc _ _ _))⟩))); try go_wp2_with (first | ((with_reducible refine gate_dst (N := 1) rfl ?_); refine box_event ?hg (N := 1) ?hd (cs := #[.int .i64 a0_0, .int .i64 a0_1, .int .i64 a0_2, .int .i64 a0_3]) (t := 51) ?hr ?_; (case hd => rfl); (case hg => rfl); (case hr => first | (go_simp; done) | (go_simp; rfl)); intro gb105 hg w12 hbox hb; have n0_ := mk_ (below_step (ub_ HB.out) hb); have n1_ := mk_ (hbox); have n2_ := mk_ ((by rw [hg]; exact (below_size (ub_ HB.out)) : w.heap.size ≤ gb105)); have n3_ := mk_ ((by rw [hg]; exact (below_size (ub_ HB.out)) : w.heap.size ≤ gb105)); clear HB; have HB := n0_; have BK105 := n1_; have GW105 := n2_; have GE105 := ge_ n3_.out; clear n0_ n1_ n2_ n3_; clear hb hbox hg; obtain ⟨hcz13_0, hcz13_1, hcz13_2, hcz13_3, hfz13_0, hfz13_1, hfz13_2, hfz13_3⟩ := cells4_ BK105.out) | (go_at_call 52; (with_reducible refine (spec_l1In.calls a0_1 0 16 true _ A2.out).mono ?_); rintro e w' ⟨rfl, ⟨nd, rfl⟩⟩; (try first | exact ⟨rfl, _, World.drewN_drewN _ _ _⟩ | exact ⟨rfl, _, Eq.trans (World.drewN_drewN _ _ _) (congrArg (World.drewN _) (Nat.add_assoc _ _ _))⟩)) | (go_at_call 52; (with_reducible refine (spec_l1In.calls a0_0 0 65535 true _ A4.out).mono ?_); rintro e w' ⟨rfl, ⟨nd, rfl⟩⟩; (try first | exact ⟨rfl, _, World.drewN_drewN _ _ _⟩ | exact ⟨rfl, _, Eq.trans (World.drewN_drewN _ _ _) (congrArg (World.drewN _) (Nat.add_assoc _ _ _))⟩)) | (go_at_call 147; (with_reducible refine (spec_l6Rest.calls a0_1 t108 _ A6.out).mono ?_); rintro e w' ⟨rfl, ⟨nd, rfl⟩⟩; (try first | exact ⟨rfl, _, World.drewN_drewN _ _ _⟩ | exact ⟨rfl, _, Eq.trans (World.drewN_drewN _ _ _) (congrArg (World.drewN _) (Nat.add_assoc _ _ _))⟩)) | (go_at_call 52; (with_reducible refine (spec_l1In.calls a0_2 0 65535 true _ A9.out).mono ?_); rintro e w' ⟨rfl, ⟨nd, rfl⟩⟩; (try first | exact ⟨rfl, _, World.drewN_drewN _ _ _⟩ | exact ⟨rfl, _, Eq.trans (World.drewN_drewN _ _ _) (congrArg (World.drewN _) (Nat.add_assoc _ _ _))⟩)) | (go_at_call 52; (with_reducible refine (spec_l1In.calls a0_3 1 48 t110 _ A11.out).mono ?_); rintro e w' ⟨rfl, ⟨nd, rfl⟩⟩; (try first | exact ⟨rfl, _, World.drewN_drewN _ _ _⟩ | exact ⟨rfl, _, Eq.trans (World.drewN_drewN _ _ _) (congrArg (World.drewN _) (Nat.add_assoc _ _ _))⟩))))
 go_ret
 exact ⟨by first | rfl | (simp [errW_none, errW_some] <;> rfl) | (simp [*, errW_none, errW_some] <;> rfl), us_ HB.out⟩

/-! ### spec_RoutesOk: function 76 -/
def spec_RoutesOk.l0 : Nat → List (S51) → Int → Option (Bool)
 | 0, _, _ => none
 | k + 1, x0, x3 => if x3 < (x0.length : Int) then (if 0 ≤ x3 then ((spec_RouteOk.f ((rd_T51 x0 x3).f0) ((rd_T51 x0 x3).f1) ((rd_T51 x0 x3).f2) ((rd_T51 x0 x3).f3)).bind fun t112 => (if t112 = true then (if x3 > 0 then (if 0 ≤ (wrap64 (x3 - 1)) then (if (wrap64 (x3 - 1)) < (x0.length : Int) then (if ((rd_T51 x0 (wrap64 (x3 - 1))).f1) > ((rd_T51 x0 x3).f1) then (some false) else (if ((rd_T51 x0 (wrap64 (x3 - 1))).f1) = ((rd_T51 x0 x3).f1) then (if ((rd_T51 x0 (wrap64 (x3 - 1))).f0) ≥ ((rd_T51 x0 x3).f0) then (some false) else (spec_RoutesOk.l0 k x0 (wrap64 (x3 + 1)))) else (spec_RoutesOk.l0 k x0 (wrap64 (x3 + 1))))) else (none)) else (none)) else (spec_RoutesOk.l0 k x0 (wrap64 (x3 + 1)))) else (some false))) else (none)) else (some (decide ((x0.length : Int) ≤ 8)))
def spec_RoutesOk.f (k : Nat) (l0 : List (S51)) : Option (Bool) := spec_RoutesOk.l0 k l0 0
theorem spec_RoutesOk.mono_l : ∀ k, (∀ y0 y1, LeO (spec_RoutesOk.l0 k y0 y1) (spec_RoutesOk.l0 (k + 1) y0 y1))
 | 0 => fun _ _ r h => by simp [spec_RoutesOk.l0] at h
 | k + 1 => by
  have ih0 := spec_RoutesOk.mono_l k
  ·intro y0 y1
   unfold spec_RoutesOk.l0
   repeat' first
   | (with_reducible exact ih0 _ _)
   | (with_reducible exact LeO.refl _)
   | (with_reducible exact LeO.none _)
   | (with_reducible refine LeO.ite ?_ ?_)
   | (with_reducible refine LeO.bind ?_ (fun _ => ?_))
   | exact ih0 _ _
   | exact LeO.none _
   | refine LeO.ite ?_ ?_
   | refine LeO.bind ?_ (fun _ => ?_)
theorem spec_RoutesOk.mono : ∀ a0 k, LeO (spec_RoutesOk.f k a0) (spec_RoutesOk.f (k + 1) a0) := by
 intro a0 k
 have ih0 := spec_RoutesOk.mono_l k
 unfold spec_RoutesOk.f
 repeat' first
   | (with_reducible exact ih0 _ _)
   | (with_reducible exact LeO.refl _)
   | (with_reducible exact LeO.none _)
   | (with_reducible refine LeO.ite ?_ ?_)
   | (with_reducible refine LeO.bind ?_ (fun _ => ?_))
   | exact ih0 _ _
   | exact LeO.none _
   | refine LeO.ite ?_ ?_
   | refine LeO.bind ?_ (fun _ => ?_)
set_option maxHeartbeats 8000000 in
set_option maxRecDepth 100000 in
theorem spec_RoutesOk.calls (k : Nat) (A0 : Option Addr) (c0 : Nat) (l0 : List (S51)) (r : Bool) (w : World) (hr0 : Kd.C k51 w A0 l0.length l0) (hc0 : l0.length ≤ c0) (h : spec_RoutesOk.f k l0 = some r) :
  Calls Try.prog 76 #[.slice A0 l0.length c0] w fun e w' => e = .returned (.bool r) ∧ Below w.heap.size w w' := by
 have hu51 := Try.underlying51
 have HR0 := mk_ hr0
 have HC0 := mk_ hc0
 clear hr0 hc0
 have HB := mk_ (Below.refl w.heap.size w)
 have H : (spec_RoutesOk.l0 k l0 0) = some r := h
 clear h
 have H' := mk_ H
 clear H
 go_enter Try.func76, Try.ntmps76
 go_wp2
 repeat (go_quiet (fail); try go_wp2)
 go_loopg [3] k (fun kq v3 w' => ∃ (x3_1 : Int), v3 = .int .i64 x3_1 ∧ Aside0 (spec_RoutesOk.l0 kq l0 x3_1 = some r) ∧ Aside0 (kq ≤ k) ∧ Aside0 (Below w.heap.size w w'))
 case atStart => exact ⟨(0), (by first | rfl | (simp; done) | (simp [*]; done)), H', ⟨Nat.le_refl _⟩, ⟨ub_ HB.out⟩⟩
 case round =>
  clear H'
  obtain ⟨x3_1, rfl, HA, HK1, HB⟩ := hrel
  cases gk with
  | zero => exact absurd HA.out (by simp [spec_RoutesOk.l0])
  | succ k1 =>
   have H := HA.out
   clear HA
   simp only [spec_RoutesOk.l0] at H
   by_cases c2 : x3_1 < (l0.length : Int)
   rotate_left
   ·rw [if_neg c2] at H
    have c2b0 : decide (x3_1 < (l0.length : Int)) = false := decide_eq_false c2
    clear c2
    obtain rfl := Option.some.inj H
    go_wp2
    repeat (go_quiet (fail); try go_wp2)
    go_ret
    exact ⟨by first | rfl | (simp [errW_none, errW_some] <;> rfl) | (simp [*, errW_none, errW_some] <;> rfl), by repeat (first | (with_reducible first | exact HB.out | apply na_ | apply nn_ | apply nw_) | exact HB.out)⟩
   rw [if_pos c2] at H
   have c2b0 : decide (x3_1 < (l0.length : Int)) = true := decide_eq_true c2
   clear c2
   by_cases c3 : 0 ≤ x3_1
   rotate_left
   ·rw [if_neg c3] at H
    exact absurd H (by simp)
   rw [if_pos c3] at H
   have c3b0 : decide (0 ≤ x3_1) = true := decide_eq_true c3
   clear c3
   replace H := Option.bind_eq_some_iff.mp H
   obtain ⟨t112, A40, H⟩ := H
   replace H : (if t112 = true then (if x3_1 > 0 then (if 0 ≤ (wrap64 (x3_1 - 1)) then (if (wrap64 (x3_1 - 1)) < (l0.length : Int) then (if ((rd_T51 l0 (wrap64 (x3_1 - 1))).f1) > ((rd_T51 l0 x3_1).f1) then (some false) else (if ((rd_T51 l0 (wrap64 (x3_1 - 1))).f1) = ((rd_T51 l0 x3_1).f1) then (if ((rd_T51 l0 (wrap64 (x3_1 - 1))).f0) ≥ ((rd_T51 l0 x3_1).f0) then (some false) else (spec_RoutesOk.l0 k1 l0 (wrap64 (x3_1 + 1)))) else (spec_RoutesOk.l0 k1 l0 (wrap64 (x3_1 + 1))))) else (none)) else (none)) else (spec_RoutesOk.l0 k1 l0 (wrap64 (x3_1 + 1)))) else (some false)) = some r := H
   have A4 := mk_ A40
   clear A40
   by_cases c5 : t112 = true
   rotate_left
   ·replace c5 := Bool.eq_false_iff.mpr c5
    subst c5
    have H1 : (some false) = some r := by rw [if_neg (show ¬ (false = true) by decide)] at H; exact H
    clear H
    have H := H1
    clear H1
    obtain rfl := Option.some.inj H
    have p111 : 0 ≤ (x3_1 : Int) := of_decide_eq_true (by first | (with_reducible assumption) | assumption)
    have q111 : x3_1 < (l0.length : Int) := of_decide_eq_true (by first | (with_reducible assumption) | assumption)
    obtain ⟨ad111, e111, hx111_0, hx111_1, hx111_2, hx111_3⟩ := at_T51 HR0.out x3_1 p111 q111
    cases e111
    replace hx111_0 := (HB.out.cell (lc_ w _ hx111_0)).trans hx111_0
    replace hx111_1 := (HB.out.cell (lc_ w _ hx111_1)).trans hx111_1
    replace hx111_2 := (HB.out.cell (lc_ w _ hx111_2)).trans hx111_2
    replace hx111_3 := (HB.out.cell (lc_ w _ hx111_3)).trans hx111_3
    replace p111 := eq_true p111
    replace q111 := eq_true q111
    go_wp2_with (first | (go_at_call 121; (with_reducible refine (spec_RouteOk.calls ((rd_T51 l0 x3_1).f0) ((rd_T51 l0 x3_1).f1) ((rd_T51 l0 x3_1).f2) ((rd_T51 l0 x3_1).f3) false _ A4.out).mono ?_); rintro e w18 ⟨rfl, hb⟩; have n0_ := mk_ (below_step (ub_ HB.out) hb); clear HB; have HB := n0_; clear n0_; (try clear hb); (try clear hb2); (try clear hk); (try clear hi)))
    repeat (go_quiet (first | (go_at_call 121; (with_reducible refine (spec_RouteOk.calls ((rd_T51 l0 x3_1).f0) ((rd_T51 l0 x3_1).f1) ((rd_T51 l0 x3_1).f2) ((rd_T51 l0 x3_1).f3) false _ A4.out).mono ?_); rintro e w18 ⟨rfl, hb⟩; have n0_ := mk_ (below_step (ub_ HB.out) hb); clear HB; have HB := n0_; clear n0_; (try clear hb); (try clear hb2); (try clear hk); (try clear hi))); try go_wp2_with (first | (go_at_call 121; (with_reducible refine (spec_RouteOk.calls ((rd_T51 l0 x3_1).f0) ((rd_T51 l0 x3_1).f1) ((rd_T51 l0 x3_1).f2) ((rd_T51 l0 x3_1).f3) false _ A4.out).mono ?_); rintro e w18 ⟨rfl, hb⟩; have n0_ := mk_ (below_step (ub_ HB.out) hb); clear HB; have HB := n0_; clear n0_; (try clear hb); (try clear hb2); (try clear hk); (try clear hi))))
    go_ret
    exact ⟨by first | rfl | (simp [errW_none, errW_some] <;> rfl) | (simp [*, errW_none, errW_some] <;> rfl), by repeat (first | (with_reducible first | exact HB.out | apply na_ | apply nn_ | apply nw_) | exact HB.out)⟩
   subst c5
   have H1 : (if x3_1 > 0 then (if 0 ≤ (wrap64 (x3_1 - 1)) then (if (wrap64 (x3_1 - 1)) < (l0.length : Int) then (if ((rd_T51 l0 (wrap64 (x3_1 - 1))).f1) > ((rd_T51 l0 x3_1).f1) then (some false) else (if ((rd_T51 l0 (wrap64 (x3_1 - 1))).f1) = ((rd_T51 l0 x3_1).f1) then (if ((rd_T51 l0 (wrap64 (x3_1 - 1))).f0) ≥ ((rd_T51 l0 x3_1).f0) then (some false) else (spec_RoutesOk.l0 k1 l0 (wrap64 (x3_1 + 1)))) else (spec_RoutesOk.l0 k1 l0 (wrap64 (x3_1 + 1))))) else (none)) else (none)) else (spec_RoutesOk.l0 k1 l0 (wrap64 (x3_1 + 1)))) = some r := by rw [if_pos rfl] at H; exact H
   clear H
   have H := H1
   clear H1
   by_cases c6 : x3_1 > 0
   rotate_left
   ·rw [if_neg c6] at H
    have c6b0 : decide (0 < x3_1) = false := decide_eq_false c6
    clear c6
    have H' := mk_ H
    clear H
    have p111 : 0 ≤ (x3_1 : Int) := of_decide_eq_true (by first | (with_reducible assumption) | assumption)
    have q111 : x3_1 < (l0.length : Int) := of_decide_eq_true (by first | (with_reducible assumption) | assumption)
    obtain ⟨ad111, e111, hx111_0, hx111_1, hx111_2, hx111_3⟩ := at_T51 HR0.out x3_1 p111 q111
    cases e111
    replace hx111_0 := (HB.out.cell (lc_ w _ hx111_0)).trans hx111_0
    replace hx111_1 := (HB.out.cell (lc_ w _ hx111_1)).trans hx111_1
    replace hx111_2 := (HB.out.cell (lc_ w _ hx111_2)).trans hx111_2
    replace hx111_3 := (HB.out.cell (lc_ w _ hx111_3)).trans hx111_3
    replace p111 := eq_true p111
    replace q111 := eq_true q111
    go_wp2_with (first | (go_at_call 121; (with_reducible refine (spec_RouteOk.calls ((rd_T51 l0 x3_1).f0) ((rd_T51 l0 x3_1).f1) ((rd_T51 l0 x3_1).f2) ((rd_T51 l0 x3_1).f3) true _ A4.out).mono ?_); rintro e w17 ⟨rfl, hb⟩; have n0_ := mk_ (below_step (ub_ HB.out) hb); clear HB; have HB := n0_; clear n0_; (try clear hb); (try clear hb2); (try clear hk); (try clear hi)))
    repeat (go_quiet (first | (go_at_call 121; (with_reducible refine (spec_RouteOk.calls ((rd_T51 l0 x3_1).f0) ((rd_T51 l0 x3_1).f1) ((rd_T51 l0 x3_1).f2) ((rd_T51 l0 x3_1).f3) true _ A4.out).mono ?_); rintro e w17 ⟨rfl, hb⟩; have n0_ := mk_ (below_step (ub_ HB.out) hb); clear HB; have HB := n0_; clear n0_; (try clear hb); (try clear hb2); (try clear hk); (try clear hi))); try go_wp2_with (first | (go_at_call 121; (with_reducible refine (spec_RouteOk.calls ((rd_T51 l0 x3_1).f0) ((rd_T51 l0 x3_1).f1) ((rd_T51 l0 x3_1).f2) ((rd_T51 l0 x3_1).f3) true _ A4.out).mono ?_); rintro e w17 ⟨rfl, hb⟩; have n0_ := mk_ (below_step (ub_ HB.out) hb); clear HB; have HB := n0_; clear n0_; (try clear hb); (try clear hb2); (try clear hk); (try clear hi))))
    go_roundg k1
    case measure => have := HK1.out; omega
    case rel => exact ⟨(wrap64 (x3_1 + 1)), (by first | rfl | (simp; done) | (simp [*]; done)), H', ⟨by have := HK1.out; omega⟩, ⟨ub_ HB.out⟩⟩
   rw [if_pos c6] at H
   have c6b0 : decide (0 < x3_1) = true := decide_eq_true c6
   clear c6
   obtain ⟨ji7, hji7⟩ : ∃ j_ : Int, (wrap64 (x3_1 - 1)) = j_ := ⟨_, rfl⟩
   replace H : (if 0 ≤ (ji7) then (if (ji7) < (l0.length : Int) then (if ((rd_T51 l0 (ji7)).f1) > ((rd_T51 l0 x3_1).f1) then (some false) else (if ((rd_T51 l0 (ji7)).f1) = ((rd_T51 l0 x3_1).f1) then (if ((rd_T51 l0 (ji7)).f0) ≥ ((rd_T51 l0 x3_1).f0) then (some false) else (spec_RoutesOk.l0 k1 l0 (wrap64 (x3_1 + 1)))) else (spec_RoutesOk.l0 k1 l0 (wrap64 (x3_1 + 1))))) else (none)) else (none)) = some r := by first | (rw [hji7] at H; exact H) | (simp only [hji7] at H ⊢; exact H)
   (try rw [hji7] at A4)
   have hji7w : (IntKind.i64.wrap (x3_1 - 1)) = ji7 := (i64_w _).trans hji7
   by_cases c8 : 0 ≤ (ji7)
   rotate_left
   ·rw [if_neg c8] at H
    exact absurd H (by simp)
   rw [if_pos c8] at H
   have c8b0 : decide (0 ≤ (ji7)) = true := decide_eq_true c8
   clear c8
   by_cases c9 : (ji7) < (l0.length : Int)
   rotate_left
   ·rw [if_neg c9] at H
    exact absurd H (by simp)
   rw [if_pos c9] at H
   have c9b0 : decide ((ji7) < (l0.length : Int)) = true := decide_eq_true c9
   clear c9
   by_cases c10 : ((rd_T51 l0 (ji7)).f1) > ((rd_T51 l0 x3_1).f1)
   ·rw [if_pos c10] at H
    have c10b0 : decide (((rd_T51 l0 x3_1).f1) < ((rd_T51 l0 (ji7)).f1)) = true := decide_eq_true c10
    clear c10
    obtain rfl := Option.some.inj H
    have p111 : 0 ≤ (x3_1 : Int) := of_decide_eq_true (by first | (with_reducible assumption) | assumption)
    have q111 : x3_1 < (l0.length : Int) := of_decide_eq_true (by first | (with_reducible assumption) | assumption)
    obtain ⟨ad111, e111, hx111_0, hx111_1, hx111_2, hx111_3⟩ := at_T51 HR0.out x3_1 p111 q111
    cases e111
    replace hx111_0 := (HB.out.cell (lc_ w _ hx111_0)).trans hx111_0
    replace hx111_1 := (HB.out.cell (lc_ w _ hx111_1)).trans hx111_1
    replace hx111_2 := (HB.out.cell (lc_ w _ hx111_2)).trans hx111_2
    replace hx111_3 := (HB.out.cell (lc_ w _ hx111_3)).trans hx111_3
    replace p111 := eq_true p111
    replace q111 := eq_true q111
    go_wp2_with (first | (go_at_call 121; (with_reducible refine (spec_RouteOk.calls ((rd_T51 l0 x3_1).f0) ((rd_T51 l0 x3_1).f1) ((rd_T51 l0 x3_1).f2) ((rd_T51 l0 x3_1).f3) true _ A4.out).mono ?_); rintro e w11 ⟨rfl, hb⟩; have n0_ := mk_ (below_step (ub_ HB.out) hb); clear HB; have HB := n0_; clear n0_; (try clear hb); (try clear hb2); (try clear hk); (try clear hi); have p113 : 0 ≤ ((ji7) : Int) := of_decide_eq_true (by first | (with_reducible assumption) | assumption); have q113 : (ji7) < (l0.length : Int) := of_decide_eq_true (by first | (with_reducible assumption) | assumption); obtain ⟨ad113, e113, hx113_0, hx113_1, hx113_2, hx113_3⟩ := at_T51 HR0.out (ji7) p113 q113; obtain rfl : ad111 = ad113 := (by injection e113); replace hx113_0 := (HB.out.cell (lc_ w _ hx113_0)).trans hx113_0; replace hx113_1 := (HB.out.cell (lc_ w _ hx113_1)).trans hx113_1; replace hx113_2 := (HB.out.cell (lc_ w _ hx113_2)).trans hx113_2; replace hx113_3 := (HB.out.cell (lc_ w _ hx113_3)).trans hx113_3; replace p113 := eq_true p113; replace q113 := eq_true q113; have p114 : 0 ≤ (x3_1 : Int) := of_decide_eq_true (by first | (with_reducible assumption) | assumption); have q114 : x3_1 < (l0.length : Int) := of_decide_eq_true (by first | (with_reducible assumption) | assumption); obtain ⟨ad114, e114, hx114_0, hx114_1, hx114_2, hx114_3⟩ := at_T51 HR0.out x3_1 p114 q114; obtain rfl : ad111 = ad114 := (by injection e114); replace hx114_0 := (HB.out.cell (lc_ w _ hx114_0)).trans hx114_0; replace hx114_1 := (HB.out.cell (lc_ w _ hx114_1)).trans hx114_1; replace hx114_2 := (HB.out.cell (lc_ w _ hx114_2)).trans hx114_2; replace hx114_3 := (HB.out.cell (lc_ w _ hx114_3)).trans hx114_3; replace p114 := eq_true p114; replace q114 := eq_true q114))
    repeat (go_quiet (first | (go_at_call 121; (with_reducible refine (spec_RouteOk.calls ((rd_T51 l0 x3_1).f0) ((rd_T51 l0 x3_1).f1) ((rd_T51 l0 x3_1).f2) ((rd_T51 l0 x3_1).f3) true _ A4.out).mono ?_); rintro e w11 ⟨rfl, hb⟩; have n0_ := mk_ (below_step (ub_ HB.out) hb); clear HB; have HB := n0_; clear n0_; (try clear hb); (try clear hb2); (try clear hk); (try clear hi); have p113 : 0 ≤ ((ji7) : Int) := of_decide_eq_true (by first | (with_reducible assumption) | assumption); have q113 : (ji7) < (l0.length : Int) := of_decide_eq_true (by first | (with_reducible assumption) | assumption); obtain ⟨ad113, e113, hx113_0, hx113_1, hx113_2, hx113_3⟩ := at_T51 HR0.out (ji7) p113 q113; obtain rfl : ad111 = ad113 := (by injection e113); replace hx113_0 := (HB.out.cell (lc_ w _ hx113_0)).trans hx113_0; replace hx113_1 := (HB.out.cell (lc_ w _ hx113_1)).trans hx113_1; replace hx113_2 := (HB.out.cell (lc_ w _ hx113_2)).trans hx113_2; replace hx113_3 := (HB.out.cell (lc_ w _ hx113_3)).trans hx113_3; replace p113 := eq_true p113; replace q113 := eq_true q113; have p114 : 0 ≤ (x3_1 : Int) := of_decide_eq_true (by first | (with_reducible assumption) | assumption); have q114 : x3_1 < (l0.length : Int) := of_decide_eq_true (by first | (with_reducible assumption) | assumption); obtain ⟨ad114, e114, hx114_0, hx114_1, hx114_2, hx114_3⟩ := at_T51 HR0.out x3_1 p114 q114; obtain rfl : ad111 = ad114 := (by injection e114); replace hx114_0 := (HB.out.cell (lc_ w _ hx114_0)).trans hx114_0; replace hx114_1 := (HB.out.cell (lc_ w _ hx114_1)).trans hx114_1; replace hx114_2 := (HB.out.cell (lc_ w _ hx114_2)).trans hx114_2; replace hx114_3 := (HB.out.cell (lc_ w _ hx114_3)).trans hx114_3; replace p114 := eq_true p114; replace q114 := eq_true q114)); try go_wp2_with (first | (go_at_call 121; (with_reducible refine (spec_RouteOk.calls ((rd_T51 l0 x3_1).f0) ((rd_T51 l0 x3_1).f1) ((rd_T51 l0 x3_1).f2) ((rd_T51 l0 x3_1).f3) true _ A4.out).mono ?_); rintro e w11 ⟨rfl, hb⟩; have n0_ := mk_ (below_step (ub_ HB.out) hb); clear HB; have HB := n0_; clear n0_; (try clear hb); (try clear hb2); (try clear hk); (try clear hi); have p113 : 0 ≤ ((ji7) : Int) := of_decide_eq_true (by first | (with_reducible assumption) | assumption); have q113 : (ji7) < (l0.length : Int) := of_decide_eq_true (by first | (with_reducible assumption) | assumption); obtain ⟨ad113, e113, hx113_0, hx113_1, hx113_2, hx113_3⟩ := at_T51 HR0.out (ji7) p113 q113; obtain rfl : ad111 = ad113 := (by injection e113); replace hx113_0 := (HB.out.cell (lc_ w _ hx113_0)).trans hx113_0; replace hx113_1 := (HB.out.cell (lc_ w _ hx113_1)).trans hx113_1; replace hx113_2 := (HB.out.cell (lc_ w _ hx113_2)).trans hx113_2; replace hx113_3 := (HB.out.cell (lc_ w _ hx113_3)).trans hx113_3; replace p113 := eq_true p113; replace q113 := eq_true q113; have p114 : 0 ≤ (x3_1 : Int) := of_decide_eq_true (by first | (with_reducible assumption) | assumption); have q114 : x3_1 < (l0.length : Int) := of_decide_eq_true (by first | (with_reducible assumption) | assumption); obtain ⟨ad114, e114, hx114_0, hx114_1, hx114_2, hx114_3⟩ := at_T51 HR0.out x3_1 p114 q114; obtain rfl : ad111 = ad114 := (by injection e114); replace hx114_0 := (HB.out.cell (lc_ w _ hx114_0)).trans hx114_0; replace hx114_1 := (HB.out.cell (lc_ w _ hx114_1)).trans hx114_1; replace hx114_2 := (HB.out.cell (lc_ w _ hx114_2)).trans hx114_2; replace hx114_3 := (HB.out.cell (lc_ w _ hx114_3)).trans hx114_3; replace p114 := eq_true p114; replace q114 := eq_true q114)))
    go_ret
    exact ⟨by first | rfl | (simp [errW_none, errW_some] <;> rfl) | (simp only [← hji7]; first | rfl | (simp [errW_none, errW_some] <;> rfl)) | (simp [*, errW_none, errW_some] <;> rfl), by repeat (first | (with_reducible first | exact HB.out | apply na_ | apply nn_ | apply nw_) | exact HB.out)⟩
   rw [if_neg c10] at H
   have c10b0 : decide (((rd_T51 l0 x3_1).f1) < ((rd_T51 l0 (ji7)).f1)) = false := decide_eq_false c10
   clear c10
   by_cases c12 : ((rd_T51 l0 (ji7)).f1) = ((rd_T51 l0 x3_1).f1)
   rotate_left
   ·rw [if_neg c12] at H
    have c12b0 : (((rd_T51 l0 (ji7)).f1) == ((rd_T51 l0 x3_1).f1)) = false := beq_eq_false_iff_ne.mpr c12
    have c12b1 : (((rd_T51 l0 (ji7)).f1) != ((rd_T51 l0 x3_1).f1)) = true := bne_iff_ne.mpr c12
    have H' := mk_ H
    clear H
    have p111 : 0 ≤ (x3_1 : Int) := of_decide_eq_true (by first | (with_reducible assumption) | assumption)
    have q111 : x3_1 < (l0.length : Int) := of_decide_eq_true (by first | (with_reducible assumption) | assumption)
    obtain ⟨ad111, e111, hx111_0, hx111_1, hx111_2, hx111_3⟩ := at_T51 HR0.out x3_1 p111 q111
    cases e111
    replace hx111_0 := (HB.out.cell (lc_ w _ hx111_0)).trans hx111_0
    replace hx111_1 := (HB.out.cell (lc_ w _ hx111_1)).trans hx111_1
    replace hx111_2 := (HB.out.cell (lc_ w _ hx111_2)).trans hx111_2
    replace hx111_3 := (HB.out.cell (lc_ w _ hx111_3)).trans hx111_3
    replace p111 := eq_true p111
    replace q111 := eq_true q111
    go_wp2_with (first | (go_at_call 121; (with_reducible refine (spec_RouteOk.calls ((rd_T51 l0 x3_1).f0) ((rd_T51 l0 x3_1).f1) ((rd_T51 l0 x3_1).f2) ((rd_T51 l0 x3_1).f3) true _ A4.out).mono ?_); rintro e w16 ⟨rfl, hb⟩; have n0_ := mk_ (below_step (ub_ HB.out) hb); clear HB; have HB := n0_; clear n0_; (try clear hb); (try clear hb2); (try clear hk); (try clear hi); have p113 : 0 ≤ ((ji7) : Int) := of_decide_eq_true (by first | (with_reducible assumption) | assumption); have q113 : (ji7) < (l0.length : Int) := of_decide_eq_true (by first | (with_reducible assumption) | assumption); obtain ⟨ad113, e113, hx113_0, hx113_1, hx113_2, hx113_3⟩ := at_T51 HR0.out (ji7) p113 q113; obtain rfl : ad111 = ad113 := (by injection e113); replace hx113_0 := (HB.out.cell (lc_ w _ hx113_0)).trans hx113_0; replace hx113_1 := (HB.out.cell (lc_ w _ hx113_1)).trans hx113_1; replace hx113_2 := (HB.out.cell (lc_ w _ hx113_2)).trans hx113_2; replace hx113_3 := (HB.out.cell (lc_ w _ hx113_3)).trans hx113_3; replace p113 := eq_true p113; replace q113 := eq_true q113; have p114 : 0 ≤ (x3_1 : Int) := of_decide_eq_true (by first | (with_reducible assumption) | assumption); have q114 : x3_1 < (l0.length : Int) := of_decide_eq_true (by first | (with_reducible assumption) | assumption); obtain ⟨ad114, e114, hx114_0, hx114_1, hx114_2, hx114_3⟩ := at_T51 HR0.out x3_1 p114 q114; obtain rfl : ad111 = ad114 := (by injection e114); replace hx114_0 := (HB.out.cell (lc_ w _ hx114_0)).trans hx114_0; replace hx114_1 := (HB.out.cell (lc_ w _ hx114_1)).trans hx114_1; replace hx114_2 := (HB.out.cell (lc_ w _ hx114_2)).trans hx114_2; replace hx114_3 := (HB.out.cell (lc_ w _ hx114_3)).trans hx114_3; replace p114 := eq_true p114; replace q114 := eq_true q114; have p115 : 0 ≤ ((ji7) : Int) := of_decide_eq_true (by first | (with_reducible assumption) | assumption); have q115 : (ji7) < (l0.length : Int) := of_decide_eq_true (by first | (with_reducible assumption) | assumption); obtain ⟨ad115, e115, hx115_0, hx115_1, hx115_2, hx115_3⟩ := at_T51 HR0.out (ji7) p115 q115; obtain rfl : ad111 = ad115 := (by injection e115); replace hx115_0 := (HB.out.cell (lc_ w _ hx115_0)).trans hx115_0; replace hx115_1 := (HB.out.cell (lc_ w _ hx115_1)).trans hx115_1; replace hx115_2 := (HB.out.cell (lc_ w _ hx115_2)).trans hx115_2; replace hx115_3 := (HB.out.cell (lc_ w _ hx115_3)).trans hx115_3; replace p115 := eq_true p115; replace q115 := eq_true q115; have p116 : 0 ≤ (x3_1 : Int) := of_decide_eq_true (by first | (with_reducible assumption) | assumption); have q116 : x3_1 < (l0.length : Int) := of_decide_eq_true (by first | (with_reducible assumption) | assumption); obtain ⟨ad116, e116, hx116_0, hx116_1, hx116_2, hx116_3⟩ := at_T51 HR0.out x3_1 p116 q116; obtain rfl : ad111 = ad116 := (by injection e116); replace hx116_0 := (HB.out.cell (lc_ w _ hx116_0)).trans hx116_0; replace hx116_1 := (HB.out.cell (lc_ w _ hx116_1)).trans hx116_1; replace hx116_2 := (HB.out.cell (lc_ w _ hx116_2)).trans hx116_2; replace hx116_3 := (HB.out.cell (lc_ w _ hx116_3)).trans hx116_3; replace p116 := eq_true p116; replace q116 := eq_true q116))
    repeat (go_quiet (first | (go_at_call 121; (with_reducible refine (spec_RouteOk.calls ((rd_T51 l0 x3_1).f0) ((rd_T51 l0 x3_1).f1) ((rd_T51 l0 x3_1).f2) ((rd_T51 l0 x3_1).f3) true _ A4.out).mono ?_); rintro e w16 ⟨rfl, hb⟩; have n0_ := mk_ (below_step (ub_ HB.out) hb); clear HB; have HB := n0_; clear n0_; (try clear hb); (try clear hb2); (try clear hk); (try clear hi); have p113 : 0 ≤ ((ji7) : Int) := of_decide_eq_true (by first | (with_reducible assumption) | assumption); have q113 : (ji7) < (l0.length : Int) := of_decide_eq_true (by first | (with_reducible assumption) | assumption); obtain ⟨ad113, e113, hx113_0, hx113_1, hx113_2, hx113_3⟩ := at_T51 HR0.out (ji7) p113 q113; obtain rfl : ad111 = ad113 := (by injection e113); replace hx113_0 := (HB.out.cell (lc_ w _ hx113_0)).trans hx113_0; replace hx113_1 := (HB.out.cell (lc_ w _ hx113_1)).trans hx113_1; replace hx113_2 := (HB.out.cell (lc_ w _ hx113_2)).trans hx113_2; replace hx113_3 := (HB.out.cell (lc_ w _ hx113_3)).trans hx113_3; replace p113 := eq_true p113; replace q113 := eq_true q113; have p114 : 0 ≤ (x3_1 : Int) := of_decide_eq_true (by first | (with_reducible assumption) | assumption); have q114 : x3_1 < (l0.length : Int) := of_decide_eq_true (by first | (with_reducible assumption) | assumption); obtain ⟨ad114, e114, hx114_0, hx114_1, hx114_2, hx114_3⟩ := at_T51 HR0.out x3_1 p114 q114; obtain rfl : ad111 = ad114 := (by injection e114); replace hx114_0 := (HB.out.cell (lc_ w _ hx114_0)).trans hx114_0; replace hx114_1 := (HB.out.cell (lc_ w _ hx114_1)).trans hx114_1; replace hx114_2 := (HB.out.cell (lc_ w _ hx114_2)).trans hx114_2; replace hx114_3 := (HB.out.cell (lc_ w _ hx114_3)).trans hx114_3; replace p114 := eq_true p114; replace q114 := eq_true q114; have p115 : 0 ≤ ((ji7) : Int) := of_decide_eq_true (by first | (with_reducible assumption) | assumption); have q115 : (ji7) < (l0.length : Int) := of_decide_eq_true (by first | (with_reducible assumption) | assumption); obtain ⟨ad115, e115, hx115_0, hx115_1, hx115_2, hx115_3⟩ := at_T51 HR0.out (ji7) p115 q115; obtain rfl : ad111 = ad115 := (by injection e115); replace hx115_0 := (HB.out.cell (lc_ w _ hx115_0)).trans hx115_0; replace hx115_1 := (HB.out.cell (lc_ w _ hx115_1)).trans hx115_1; replace hx115_2 := (HB.out.cell (lc_ w _ hx115_2)).trans hx115_2; replace hx115_3 := (HB.out.cell (lc_ w _ hx115_3)).trans hx115_3; replace p115 := eq_true p115; replace q115 := eq_true q115; have p116 : 0 ≤ (x3_1 : Int) := of_decide_eq_true (by first | (with_reducible assumption) | assumption); have q116 : x3_1 < (l0.length : Int) := of_decide_eq_true (by first | (with_reducible assumption) | assumption); obtain ⟨ad116, e116, hx116_0, hx116_1, hx116_2, hx116_3⟩ := at_T51 HR0.out x3_1 p116 q116; obtain rfl : ad111 = ad116 := (by injection e116); replace hx116_0 := (HB.out.cell (lc_ w _ hx116_0)).trans hx116_0; replace hx116_1 := (HB.out.cell (lc_ w _ hx116_1)).trans hx116_1; replace hx116_2 := (HB.out.cell (lc_ w _ hx116_2)).trans hx116_2; replace hx116_3 := (HB.out.cell (lc_ w _ hx116_3)).trans hx116_3; replace p116 := eq_true p116; replace q116 := eq_true q116)); try go_wp2_with (first | (go_at_call 121; (with_reducible refine (spec_RouteOk.calls ((rd_T51 l0 x3_1).f0) ((rd_T51 l0 x3_1).f1) ((rd_T51 l0 x3_1).f2) ((rd_T51 l0 x3_1).f3) true _ A4.out).mono ?_); rintro e w16 ⟨rfl, hb⟩; have n0_ := mk_ (below_step (ub_ HB.out) hb); clear HB; have HB := n0_; clear n0_; (try clear hb); (try clear hb2); (try clear hk); (try clear hi); have p113 : 0 ≤ ((ji7) : Int) := of_decide_eq_true (by first | (with_reducible assumption) | assumption); have q113 : (ji7) < (l0.length : Int) := of_decide_eq_true (by first | (with_reducible assumption) | assumption); obtain ⟨ad113, e113, hx113_0, hx113_1, hx113_2, hx113_3⟩ := at_T51 HR0.out (ji7) p113 q113; obtain rfl : ad111 = ad113 := (by injection e113); replace hx113_0 := (HB.out.cell (lc_ w _ hx113_0)).trans hx113_0; replace hx113_1 := (HB.out.cell (lc_ w _ hx113_1)).trans hx113_1; replace hx113_2 := (HB.out.cell (lc_ w _ hx113_2)).trans hx113_2; replace hx113_3 := (HB.out.cell (lc_ w _ hx113_3)).trans hx113_3; replace p113 := eq_true p113; replace q113 := eq_true q113; have p114 : 0 ≤ (x3_1 : Int) := of_decide_eq_true (by first | (with_reducible assumption) | assumption); have q114 : x3_1 < (l0.length : Int) := of_decide_eq_true (by first | (with_reducible assumption) | assumption); obtain ⟨ad114, e114, hx114_0, hx114_1, hx114_2, hx114_3⟩ := at_T51 HR0.out x3_1 p114 q114; obtain rfl : ad111 = ad114 := (by injection e114); replace hx114_0 := (HB.out.cell (lc_ w _ hx114_0)).trans hx114_0; replace hx114_1 := (HB.out.cell (lc_ w _ hx114_1)).trans hx114_1; replace hx114_2 := (HB.out.cell (lc_ w _ hx114_2)).trans hx114_2; replace hx114_3 := (HB.out.cell (lc_ w _ hx114_3)).trans hx114_3; replace p114 := eq_true p114; replace q114 := eq_true q114; have p115 : 0 ≤ ((ji7) : Int) := of_decide_eq_true (by first | (with_reducible assumption) | assumption); have q115 : (ji7) < (l0.length : Int) := of_decide_eq_true (by first | (with_reducible assumption) | assumption); obtain ⟨ad115, e115, hx115_0, hx115_1, hx115_2, hx115_3⟩ := at_T51 HR0.out (ji7) p115 q115; obtain rfl : ad111 = ad115 := (by injection e115); replace hx115_0 := (HB.out.cell (lc_ w _ hx115_0)).trans hx115_0; replace hx115_1 := (HB.out.cell (lc_ w _ hx115_1)).trans hx115_1; replace hx115_2 := (HB.out.cell (lc_ w _ hx115_2)).trans hx115_2; replace hx115_3 := (HB.out.cell (lc_ w _ hx115_3)).trans hx115_3; replace p115 := eq_true p115; replace q115 := eq_true q115; have p116 : 0 ≤ (x3_1 : Int) := of_decide_eq_true (by first | (with_reducible assumption) | assumption); have q116 : x3_1 < (l0.length : Int) := of_decide_eq_true (by first | (with_reducible assumption) | assumption); obtain ⟨ad116, e116, hx116_0, hx116_1, hx116_2, hx116_3⟩ := at_T51 HR0.out x3_1 p116 q116; obtain rfl : ad111 = ad116 := (by injection e116); replace hx116_0 := (HB.out.cell (lc_ w _ hx116_0)).trans hx116_0; replace hx116_1 := (HB.out.cell (lc_ w _ hx116_1)).trans hx116_1; replace hx116_2 := (HB.out.cell (lc_ w _ hx116_2)).trans hx116_2; replace hx116_3 := (HB.out.cell (lc_ w _ hx116_3)).trans hx116_3; replace p116 := eq_true p116; replace q116 := eq_true q116)))
    go_roundg k1
    case measure => have := HK1.out; omega
    case rel => exact ⟨(wrap64 (x3_1 + 1)), (by first | rfl | (simp; done) | (simp [*]; done)), H', ⟨by have := HK1.out; omega⟩, ⟨ub_ HB.out⟩⟩
   rw [if_pos c12] at H
   have c12b0 : (((rd_T51 l0 (ji7)).f1) == ((rd_T51 l0 x3_1).f1)) = true := beq_iff_eq.mpr c12
   have c12b1 : (((rd_T51 l0 (ji7)).f1) != ((rd_T51 l0 x3_1).f1)) = false := bne_eq_false_iff_eq.mpr c12
   clear c12
   by_cases c13 : ((rd_T51 l0 (ji7)).f0) ≥ ((rd_T51 l0 x3_1).f0)
   ·rw [if_pos c13] at H
    have c13b0 : decide (((rd_T51 l0 x3_1).f0) ≤ ((rd_T51 l0 (ji7)).f0)) = true := decide_eq_true c13
    clear c13
    obtain rfl := Option.some.inj H
    have p111 : 0 ≤ (x3_1 : Int) := of_decide_eq_true (by first | (with_reducible assumption) | assumption)
    have q111 : x3_1 < (l0.length : Int) := of_decide_eq_true (by first | (with_reducible assumption) | assumption)
    obtain ⟨ad111, e111, hx111_0, hx111_1, hx111_2, hx111_3⟩ := at_T51 HR0.out x3_1 p111 q111
    cases e111
    replace hx111_0 := (HB.out.cell (lc_ w _ hx111_0)).trans hx111_0
    replace hx111_1 := (HB.out.cell (lc_ w _ hx111_1)).trans hx111_1
    replace hx111_2 := (HB.out.cell (lc_ w _ hx111_2)).trans hx111_2
    replace hx111_3 := (HB.out.cell (lc_ w _ hx111_3)).trans hx111_3
    replace p111 := eq_true p111
    replace q111 := eq_true q111
    go_wp2_with (first | (go_at_call 121; (with_reducible refine (spec_RouteOk.calls ((rd_T51 l0 x3_1).f0) ((rd_T51 l0 x3_1).f1) ((rd_T51 l0 x3_1).f2) ((rd_T51 l0 x3_1).f3) true _ A4.out).mono ?_); rintro e w14 ⟨rfl, hb⟩; have n0_ := mk_ (below_step (ub_ HB.out) hb); clear HB; have HB := n0_; clear n0_; (try clear hb); (try clear hb2); (try clear hk); (try clear hi); have p113 : 0 ≤ ((ji7) : Int) := of_decide_eq_true (by first | (with_reducible assumption) | assumption); have q113 : (ji7) < (l0.length : Int) := of_decide_eq_true (by first | (with_reducible assumption) | assumption); obtain ⟨ad113, e113, hx113_0, hx113_1, hx113_2, hx113_3⟩ := at_T51 HR0.out (ji7) p113 q113; obtain rfl : ad111 = ad113 := (by injection e113); replace hx113_0 := (HB.out.cell (lc_ w _ hx113_0)).trans hx113_0; replace hx113_1 := (HB.out.cell (lc_ w _ hx113_1)).trans hx113_1; replace hx113_2 := (HB.out.cell (lc_ w _ hx113_2)).trans hx113_2; replace hx113_3 := (HB.out.cell (lc_ w _ hx113_3)).trans hx113_3; replace p113 := eq_true p113; replace q113 := eq_true q113; have p114 : 0 ≤ (x3_1 : Int) := of_decide_eq_true (by first | (with_reducible assumption) | assumption); have q114 : x3_1 < (l0.length : Int) := of_decide_eq_true (by first | (with_reducible assumption) | assumption); obtain ⟨ad114, e114, hx114_0, hx114_1, hx114_2, hx114_3⟩ := at_T51 HR0.out x3_1 p114 q114; obtain rfl : ad111 = ad114 := (by injection e114); replace hx114_0 := (HB.out.cell (lc_ w _ hx114_0)).trans hx114_0; replace hx114_1 := (HB.out.cell (lc_ w _ hx114_1)).trans hx114_1; replace hx114_2 := (HB.out.cell (lc_ w _ hx114_2)).trans hx114_2; replace hx114_3 := (HB.out.cell (lc_ w _ hx114_3)).trans hx114_3; replace p114 := eq_true p114; replace q114 := eq_true q114; have p115 : 0 ≤ ((ji7) : Int) := of_decide_eq_true (by first | (with_reducible assumption) | assumption); have q115 : (ji7) < (l0.length : Int) := of_decide_eq_true (by first | (with_reducible assumption) | assumption); obtain ⟨ad115, e115, hx115_0, hx115_1, hx115_2, hx115_3⟩ := at_T51 HR0.out (ji7) p115 q115; obtain rfl : ad111 = ad115 := (by injection e115); replace hx115_0 := (HB.out.cell (lc_ w _ hx115_0)).trans hx115_0; replace hx115_1 := (HB.out.cell (lc_ w _ hx115_1)).trans hx115_1; replace hx115_2 := (HB.out.cell (lc_ w _ hx115_2)).trans hx115_2; replace hx115_3 := (HB.out.cell (lc_ w _ hx115_3)).trans hx115_3; replace p115 := eq_true p115; replace q115 := eq_true q115; have p116 : 0 ≤ (x3_1 : Int) := of_decide_eq_true (by first | (with_reducible assumption) | assumption); have q116 : x3_1 < (l0.length : Int) := of_decide_eq_true (by first | (with_reducible assumption) | assumption); obtain ⟨ad116, e116, hx116_0, hx116_1, hx116_2, hx116_3⟩ := at_T51 HR0.out x3_1 p116 q116; obtain rfl : ad111 = ad116 := (by injection e116); replace hx116_0 := (HB.out.cell (lc_ w _ hx116_0)).trans hx116_0; replace hx116_1 := (HB.out.cell (lc_ w _ hx116_1)).trans hx116_1; replace hx116_2 := (HB.out.cell (lc_ w _ hx116_2)).trans hx116_2; replace hx116_3 := (HB.out.cell (lc_ w _ hx116_3)).trans hx116_3; replace p116 := eq_true p116; replace q116 := eq_true q116; have p117 : 0 ≤ ((ji7) : Int) := of_decide_eq_true (by first | (with_reducible assumption) | assumption); have q117 : (ji7) < (l0.length : Int) := of_decide_eq_true (by first | (with_reducible assumption) | assumption); obtain ⟨ad117, e117, hx117_0, hx117_1, hx117_2, hx117_3⟩ := at_T51 HR0.out (ji7) p117 q117; obtain rfl : ad111 = ad117 := (by injection e117); replace hx117_0 := (HB.out.cell (lc_ w _ hx117_0)).trans hx117_0; replace hx117_1 := (HB.out.cell (lc_ w _ hx117_1)).trans hx117_1; replace hx117_2 := (HB.out.cell (lc_ w _ hx117_2)).trans hx117_2; replace hx117_3 := (HB.out.cell (lc_ w _ hx117_3)).trans hx117_3; replace p117 := eq_true p117; replace q117 := eq_true q117; have p118 : 0 ≤ (x3_1 : Int) := of_decide_eq_true (by first | (with_reducible assumption) | assumption); have q118 : x3_1 < (l0.length : Int) := of_decide_eq_true (by first | (with_reducible assumption) | assumption); obtain ⟨ad118, e118, hx118_0, hx118_1, hx118_2, hx118_3⟩ := at_T51 HR0.out x3_1 p118 q118; obtain rfl : ad111 = ad118 := (by injection e118); replace hx118_0 := (HB.out.cell (lc_ w _ hx118_0)).trans hx118_0; replace hx118_1 := (HB.out.cell (lc_ w _ hx118_1)).trans hx118_1; replace hx118_2 := (HB.out.cell (lc_ w _ hx118_2)).trans hx118_2; replace hx118_3 := (HB.out.cell (lc_ w _ hx118_3)).trans hx118_3; replace p118 := eq_true p118; replace q118 := eq_true q118))
    repeat (go_quiet (first | (go_at_call 121; (with_reducible refine (spec_RouteOk.calls ((rd_T51 l0 x3_1).f0) ((rd_T51 l0 x3_1).f1) ((rd_T51 l0 x3_1).f2) ((rd_T51 l0 x3_1).f3) true _ A4.out).mono ?_); rintro e w14 ⟨rfl, hb⟩; have n0_ := mk_ (below_step (ub_ HB.out) hb); clear HB; have HB := n0_; clear n0_; (try clear hb); (try clear hb2); (try clear hk); (try clear hi); have p113 : 0 ≤ ((ji7) : Int) := of_decide_eq_true (by first | (with_reducible assumption) | assumption); have q113 : (ji7) < (l0.length : Int) := of_decide_eq_true (by first | (with_reducible assumption) | assumption); obtain ⟨ad113, e113, hx113_0, hx113_1, hx113_2, hx113_3⟩ := at_T51 HR0.out (ji7) p113 q113; obtain rfl : ad111 = ad113 := (by injection e113); replace hx113_0 := (HB.out.cell (lc_ w _ hx113_0)).trans hx113_0; replace hx113_1 := (HB.out.cell (lc_ w _ hx113_1)).trans hx113_1; replace hx113_2 := (HB.out.cell (lc_ w _ hx113_2)).trans hx113_2; replace hx113_3 := (HB.out.cell (lc_ w _ hx113_3)).trans hx113_3; replace p113 := eq_true p113; replace q113 := eq_true q113; have p114 : 0 ≤ (x3_1 : Int) := of_decide_eq_true (by first | (with_reducible assumption) | assumption); have q114 : x3_1 < (l0.length : Int) := of_decide_eq_true (by first | (with_reducible assumption) | assumption); obtain ⟨ad114, e114, hx114_0, hx114_1, hx114_2, hx114_3⟩ := at_T51 HR0.out x3_1 p114 q114; obtain rfl : ad111 = ad114 := (by injection e114); replace hx114_0 := (HB.out.cell (lc_ w _ hx114_0)).trans hx114_0; replace hx114_1 := (HB.out.cell (lc_ w _ hx114_1)).trans hx114_1; replace hx114_2 := (HB.out.cell (lc_ w _ hx114_2)).trans hx114_2; replace hx114_3 := (HB.out.cell (lc_ w _ hx114_3)).trans hx114_3; replace p114 := eq_true p114; replace q114 := eq_true q114; have p115 : 0 ≤ ((ji7) : Int) := of_decide_eq_true (by first | (with_reducible assumption) | assumption); have q115 : (ji7) < (l0.length : Int) := of_decide_eq_true (by first | (with_reducible assumption) | assumption); obtain ⟨ad115, e115, hx115_0, hx115_1, hx115_2, hx115_3⟩ := at_T51 HR0.out (ji7) p115 q115; obtain rfl : ad111 = ad115 := (by injection e115); replace hx115_0 := (HB.out.cell (lc_ w _ hx115_0)).trans hx115_0; replace hx115_1 := (HB.out.cell (lc_ w _ hx115_1)).trans hx115_1; replace hx115_2 := (HB.out.cell (lc_ w _ hx115_2)).trans hx115_2; replace hx115_3 := (HB.out.cell (lc_ w _ hx115_3)).trans hx115_3; replace p115 := eq_true p115; replace q115 := eq_true q115; have p116 : 0 ≤ (x3_1 : Int) := of_decide_eq_true (by first | (with_reducible assumption) | assumption); have q116 : x3_1 < (l0.length : Int) := of_decide_eq_true (by first | (with_reducible assumption) | assumption); obtain ⟨ad116, e116, hx116_0, hx116_1, hx116_2, hx116_3⟩ := at_T51 HR0.out x3_1 p116 q116; obtain rfl : ad111 = ad116 := (by injection e116); replace hx116_0 := (HB.out.cell (lc_ w _ hx116_0)).trans hx116_0; replace hx116_1 := (HB.out.cell (lc_ w _ hx116_1)).trans hx116_1; replace hx116_2 := (HB.out.cell (lc_ w _ hx116_2)).trans hx116_2; replace hx116_3 := (HB.out.cell (lc_ w _ hx116_3)).trans hx116_3; replace p116 := eq_true p116; replace q116 := eq_true q116; have p117 : 0 ≤ ((ji7) : Int) := of_decide_eq_true (by first | (with_reducible assumption) | assumption); have q117 : (ji7) < (l0.length : Int) := of_decide_eq_true (by first | (with_reducible assumption) | assumption); obtain ⟨ad117, e117, hx117_0, hx117_1, hx117_2, hx117_3⟩ := at_T51 HR0.out (ji7) p117 q117; obtain rfl : ad111 = ad117 := (by injection e117); replace hx117_0 := (HB.out.cell (lc_ w _ hx117_0)).trans hx117_0; replace hx117_1 := (HB.out.cell (lc_ w _ hx117_1)).trans hx117_1; replace hx117_2 := (HB.out.cell (lc_ w _ hx117_2)).trans hx117_2; replace hx117_3 := (HB.out.cell (lc_ w _ hx117_3)).trans hx117_3; replace p117 := eq_true p117; replace q117 := eq_true q117; have p118 : 0 ≤ (x3_1 : Int) := of_decide_eq_true (by first | (with_reducible assumption) | assumption); have q118 : x3_1 < (l0.length : Int) := of_decide_eq_true (by first | (with_reducible assumption) | assumption); obtain ⟨ad118, e118, hx118_0, hx118_1, hx118_2, hx118_3⟩ := at_T51 HR0.out x3_1 p118 q118; obtain rfl : ad111 = ad118 := (by injection e118); replace hx118_0 := (HB.out.cell (lc_ w _ hx118_0)).trans hx118_0; replace hx118_1 := (HB.out.cell (lc_ w _ hx118_1)).trans hx118_1; replace hx118_2 := (HB.out.cell (lc_ w _ hx118_2)).trans hx118_2; replace hx118_3 := (HB.out.cell (lc_ w _ hx118_3)).trans hx118_3; replace p118 := eq_true p118; replace q118 := eq_true q118)); try go_wp2_with (first | (go_at_call 121; (with_reducible refine (spec_RouteOk.calls ((rd_T51 l0 x3_1).f0) ((rd_T51 l0 x3_1).f1) ((rd_T51 l0 x3_1).f2) ((rd_T51 l0 x3_1).f3) true _ A4.out).mono ?_); rintro e w14 ⟨rfl, hb⟩; have n0_ := mk_ (below_step (ub_ HB.out) hb); clear HB; have HB := n0_; clear n0_; (try clear hb); (try clear hb2); (try clear hk); (try clear hi); have p113 : 0 ≤ ((ji7) : Int) := of_decide_eq_true (by first | (with_reducible assumption) | assumption); have q113 : (ji7) < (l0.length : Int) := of_decide_eq_true (by first | (with_reducible assumption) | assumption); obtain ⟨ad113, e113, hx113_0, hx113_1, hx113_2, hx113_3⟩ := at_T51 HR0.out (ji7) p113 q113; obtain rfl : ad111 = ad113 := (by injection e113); replace hx113_0 := (HB.out.cell (lc_ w _ hx113_0)).trans hx113_0; replace hx113_1 := (HB.out.cell (lc_ w _ hx113_1)).trans hx113_1; replace hx113_2 := (HB.out.cell (lc_ w _ hx113_2)).trans hx113_2; replace hx113_3 := (HB.out.cell (lc_ w _ hx113_3)).trans hx113_3; replace p113 := eq_true p113; replace q113 := eq_true q113; have p114 : 0 ≤ (x3_1 : Int) := of_decide_eq_true (by first | (with_reducible assumption) | assumption); have q114 : x3_1 < (l0.length : Int) := of_decide_eq_true (by first | (with_reducible assumption) | assumption); obtain ⟨ad114, e114, hx114_0, hx114_1, hx114_2, hx114_3⟩ := at_T51 HR0.out x3_1 p114 q114; obtain rfl : ad111 = ad114 := (by injection e114); replace hx114_0 := (HB.out.cell (lc_ w _ hx114_0)).trans hx114_0; replace hx114_1 := (HB.out.cell (lc_ w _ hx114_1)).trans hx114_1; replace hx114_2 := (HB.out.cell (lc_ w _ hx114_2)).trans hx114_2; replace hx114_3 := (HB.out.cell (lc_ w _ hx114_3)).trans hx114_3; replace p114 := eq_true p114; replace q114 := eq_true q114; have p115 : 0 ≤ ((ji7) : Int) := of_decide_eq_true (by first | (with_reducible assumption) | assumption); have q115 : (ji7) < (l0.length : Int) := of_decide_eq_true (by first | (with_reducible assumption) | assumption); obtain ⟨ad115, e115, hx115_0, hx115_1, hx115_2, hx115_3⟩ := at_T51 HR0.out (ji7) p115 q115; obtain rfl : ad111 = ad115 := (by injection e115); replace hx115_0 := (HB.out.cell (lc_ w _ hx115_0)).trans hx115_0; replace hx115_1 := (HB.out.cell (lc_ w _ hx115_1)).trans hx115_1; replace hx115_2 := (HB.out.cell (lc_ w _ hx115_2)).trans hx115_2; replace hx115_3 := (HB.out.cell (lc_ w _ hx115_3)).trans hx115_3; replace p115 := eq_true p115; replace q115 := eq_true q115; have p116 : 0 ≤ (x3_1 : Int) := of_decide_eq_true (by first | (with_reducible assumption) | assumption); have q116 : x3_1 < (l0.length : Int) := of_decide_eq_true (by first | (with_reducible assumption) | assumption); obtain ⟨ad116, e116, hx116_0, hx116_1, hx116_2, hx116_3⟩ := at_T51 HR0.out x3_1 p116 q116; obtain rfl : ad111 = ad116 := (by injection e116); replace hx116_0 := (HB.out.cell (lc_ w _ hx116_0)).trans hx116_0; replace hx116_1 := (HB.out.cell (lc_ w _ hx116_1)).trans hx116_1; replace hx116_2 := (HB.out.cell (lc_ w _ hx116_2)).trans hx116_2; replace hx116_3 := (HB.out.cell (lc_ w _ hx116_3)).trans hx116_3; replace p116 := eq_true p116; replace q116 := eq_true q116; have p117 : 0 ≤ ((ji7) : Int) := of_decide_eq_true (by first | (with_reducible assumption) | assumption); have q117 : (ji7) < (l0.length : Int) := of_decide_eq_true (by first | (with_reducible assumption) | assumption); obtain ⟨ad117, e117, hx117_0, hx117_1, hx117_2, hx117_3⟩ := at_T51 HR0.out (ji7) p117 q117; obtain rfl : ad111 = ad117 := (by injection e117); replace hx117_0 := (HB.out.cell (lc_ w _ hx117_0)).trans hx117_0; replace hx117_1 := (HB.out.cell (lc_ w _ hx117_1)).trans hx117_1; replace hx117_2 := (HB.out.cell (lc_ w _ hx117_2)).trans hx117_2; replace hx117_3 := (HB.out.cell (lc_ w _ hx117_3)).trans hx117_3; replace p117 := eq_true p117; replace q117 := eq_true q117; have p118 : 0 ≤ (x3_1 : Int) := of_decide_eq_true (by first | (with_reducible assumption) | assumption); have q118 : x3_1 < (l0.length : Int) := of_decide_eq_true (by first | (with_reducible assumption) | assumption); obtain ⟨ad118, e118, hx118_0, hx118_1, hx118_2, hx118_3⟩ := at_T51 HR0.out x3_1 p118 q118; obtain rfl : ad111 = ad118 := (by injection e118); replace hx118_0 := (HB.out.cell (lc_ w _ hx118_0)).trans hx118_0; replace hx118_1 := (HB.out.cell (lc_ w _ hx118_1)).trans hx118_1; replace hx118_2 := (HB.out.cell (lc_ w _ hx118_2)).trans hx118_2; replace hx118_3 := (HB.out.cell (lc_ w _ hx118_3)).trans hx118_3; replace p118 := eq_true p118; replace q118 := eq_true q118)))
    go_ret
    exact ⟨by first | rfl | (simp [errW_none, errW_some] <;> rfl) | (simp only [← hji7]; first | rfl | (simp [errW_none, errW_some] <;> rfl)) | (simp [*, errW_none, errW_some] <;> rfl), by repeat (first | (with_reducible first | exact HB.out | apply na_ | apply nn_ | apply nw_) | exact HB.out)⟩
   rw [if_neg c13] at H
   have c13b0 : decide (((rd_T51 l0 x3_1).f0) ≤ ((rd_T51 l0 (ji7)).f0)) = false := decide_eq_false c13
   clear c13
   have H' := mk_ H
   clear H
   have p111 : 0 ≤ (x3_1 : Int) := of_decide_eq_true (by first | (with_reducible assumption) | assumption)
   have q111 : x3_1 < (l0.length : Int) := of_decide_eq_true (by first | (with_reducible assumption) | assumption)
   obtain ⟨ad111, e111, hx111_0, hx111_1, hx111_2, hx111_3⟩ := at_T51 HR0.out x3_1 p111 q111
   cases e111
   replace hx111_0 := (HB.out.cell (lc_ w _ hx111_0)).trans hx111_0
   replace hx111_1 := (HB.out.cell (lc_ w _ hx111_1)).trans hx111_1
   replace hx111_2 := (HB.out.cell (lc_ w _ hx111_2)).trans hx111_2
   replace hx111_3 := (HB.out.cell (lc_ w _ hx111_3)).trans hx111_3
   replace p111 := eq_true p111
   replace q111 := eq_true q111
   go_wp2_with (first | (go_at_call 121; (with_reducible refine (spec_RouteOk.calls ((rd_T51 l0 x3_1).f0) ((rd_T51 l0 x3_1).f1) ((rd_T51 l0 x3_1).f2) ((rd_T51 l0 x3_1).f3) true _ A4.out).mono ?_); rintro e w15 ⟨rfl, hb⟩; have n0_ := mk_ (below_step (ub_ HB.out) hb); clear HB; have HB := n0_; clear n0_; (try clear hb); (try clear hb2); (try clear hk); (try clear hi); have p113 : 0 ≤ ((ji7) : Int) := of_decide_eq_true (by first | (with_reducible assumption) | assumption); have q113 : (ji7) < (l0.length : Int) := of_decide_eq_true (by first | (with_reducible assumption) | assumption); obtain ⟨ad113, e113, hx113_0, hx113_1, hx113_2, hx113_3⟩ := at_T51 HR0.out (ji7) p113 q113; obtain rfl : ad111 = ad113 := (by injection e113); replace hx113_0 := (HB.out.cell (lc_ w _ hx113_0)).trans hx113_0; replace hx113_1 := (HB.out.cell (lc_ w _ hx113_1)).trans hx113_1; replace hx113_2 := (HB.out.cell (lc_ w _ hx113_2)).trans hx113_2; replace hx113_3 := (HB.out.cell (lc_ w _ hx113_3)).trans hx113_3; replace p113 := eq_true p113; replace q113 := eq_true q113; have p114 : 0 ≤ (x3_1 : Int) := of_decide_eq_true (by first | (with_reducible assumption) | assumption); have q114 : x3_1 < (l0.length : Int) := of_decide_eq_true (by first | (with_reducible assumption) | assumption); obtain ⟨ad114, e114, hx114_0, hx114_1, hx114_2, hx114_3⟩ := at_T51 HR0.out x3_1 p114 q114; obtain rfl : ad111 = ad114 := (by injection e114); replace hx114_0 := (HB.out.cell (lc_ w _ hx114_0)).trans hx114_0; replace hx114_1 := (HB.out.cell (lc_ w _ hx114_1)).trans hx114_1; replace hx114_2 := (HB.out.cell (lc_ w _ hx114_2)).trans hx114_2; replace hx114_3 := (HB.out.cell (lc_ w _ hx114_3)).trans hx114_3; replace p114 := eq_true p114; replace q114 := eq_true q114; have p115 : 0 ≤ ((ji7) : Int) := of_decide_eq_true (by first | (with_reducible assumption) | assumption); have q115 : (ji7) < (l0.length : Int) := of_decide_eq_true (by first | (with_reducible assumption) | assumption); obtain ⟨ad115, e115, hx115_0, hx115_1, hx115_2, hx115_3⟩ := at_T51 HR0.out (ji7) p115 q115; obtain rfl : ad111 = ad115 := (by injection e115); replace hx115_0 := (HB.out.cell (lc_ w _ hx115_0)).trans hx115_0; replace hx115_1 := (HB.out.cell (lc_ w _ hx115_1)).trans hx115_1; replace hx115_2 := (HB.out.cell (lc_ w _ hx115_2)).trans hx115_2; replace hx115_3 := (HB.out.cell (lc_ w _ hx115_3)).trans hx115_3; replace p115 := eq_true p115; replace q115 := eq_true q115; have p116 : 0 ≤ (x3_1 : Int) := of_decide_eq_true (by first | (with_reducible assumption) | assumption); have q116 : x3_1 < (l0.length : Int) := of_decide_eq_true (by first | (with_reducible assumption) | assumption); obtain ⟨ad116, e116, hx116_0, hx116_1, hx116_2, hx116_3⟩ := at_T51 HR0.out x3_1 p116 q116; obtain rfl : ad111 = ad116 := (by injection e116); replace hx116_0 := (HB.out.cell (lc_ w _ hx116_0)).trans hx116_0; replace hx116_1 := (HB.out.cell (lc_ w _ hx116_1)).trans hx116_1; replace hx116_2 := (HB.out.cell (lc_ w _ hx116_2)).trans hx116_2; replace hx116_3 := (HB.out.cell (lc_ w _ hx116_3)).trans hx116_3; replace p116 := eq_true p116; replace q116 := eq_true q116; have p117 : 0 ≤ ((ji7) : Int) := of_decide_eq_true (by first | (with_reducible assumption) | assumption); have q117 : (ji7) < (l0.length : Int) := of_decide_eq_true (by first | (with_reducible assumption) | assumption); obtain ⟨ad117, e117, hx117_0, hx117_1, hx117_2, hx117_3⟩ := at_T51 HR0.out (ji7) p117 q117; obtain rfl : ad111 = ad117 := (by injection e117); replace hx117_0 := (HB.out.cell (lc_ w _ hx117_0)).trans hx117_0; replace hx117_1 := (HB.out.cell (lc_ w _ hx117_1)).trans hx117_1; replace hx117_2 := (HB.out.cell (lc_ w _ hx117_2)).trans hx117_2; replace hx117_3 := (HB.out.cell (lc_ w _ hx117_3)).trans hx117_3; replace p117 := eq_true p117; replace q117 := eq_true q117; have p118 : 0 ≤ (x3_1 : Int) := of_decide_eq_true (by first | (with_reducible assumption) | assumption); have q118 : x3_1 < (l0.length : Int) := of_decide_eq_true (by first | (with_reducible assumption) | assumption); obtain ⟨ad118, e118, hx118_0, hx118_1, hx118_2, hx118_3⟩ := at_T51 HR0.out x3_1 p118 q118; obtain rfl : ad111 = ad118 := (by injection e118); replace hx118_0 := (HB.out.cell (lc_ w _ hx118_0)).trans hx118_0; replace hx118_1 := (HB.out.cell (lc_ w _ hx118_1)).trans hx118_1; replace hx118_2 := (HB.out.cell (lc_ w _ hx118_2)).trans hx118_2; replace hx118_3 := (HB.out.cell (lc_ w _ hx118_3)).trans hx118_3; replace p118 := eq_true p118; replace q118 := eq_true q118))
   repeat (go_quiet (first | (go_at_call 121; (with_reducible refine (spec_RouteOk.calls ((rd_T51 l0 x3_1).f0) ((rd_T51 l0 x3_1).f1) ((rd_T51 l0 x3_1).f2) ((rd_T51 l0 x3_1).f3) true _ A4.out).mono ?_); rintro e w15 ⟨rfl, hb⟩; have n0_ := mk_ (below_step (ub_ HB.out) hb); clear HB; have HB := n0_; clear n0_; (try clear hb); (try clear hb2); (try clear hk); (try clear hi); have p113 : 0 ≤ ((ji7) : Int) := of_decide_eq_true (by first | (with_reducible assumption) | assumption); have q113 : (ji7) < (l0.length : Int) := of_decide_eq_true (by first | (with_reducible assumption) | assumption); obtain ⟨ad113, e113, hx113_0, hx113_1, hx113_2, hx113_3⟩ := at_T51 HR0.out (ji7) p113 q113; obtain rfl : ad111 = ad113 := (by injection e113); replace hx113_0 := (HB.out.cell (lc_ w _ hx113_0)).trans hx113_0; replace hx113_1 := (HB.out.cell (lc_ w _ hx113_1)).trans hx113_1; replace hx113_2 := (HB.out.cell (lc_ w _ hx113_2)).trans hx113_2; replace hx113_3 := (HB.out.cell (lc_ w _ hx113_3)).trans hx113_3; replace p113 := eq_true p113; replace q113 := eq_true q113; have p114 : 0 ≤ (x3_1 : Int) := of_decide_eq_true (by first | (with_reducible assumption) | assumption); have q114 : x3_1 < (l0.length : Int) := of_decide_eq_true (by first | (with_reducible assumption) | assumption); obtain ⟨ad114, e114, hx114_0, hx114_1, hx114_2, hx114_3⟩ := at_T51 HR0.out x3_1 p114 q114; obtain rfl : ad111 = ad114 := (by injection e114); replace hx114_0 := (HB.out.cell (lc_ w _ hx114_0)).trans hx114_0; replace hx114_1 := (HB.out.cell (lc_ w _ hx114_1)).trans hx114_1; replace hx114_2 := (HB.out.cell (lc_ w _ hx114_2)).trans hx114_2; replace hx114_3 := (HB.out.cell (lc_ w _ hx114_3)).trans hx114_3; replace p114 := eq_true p114; replace q114 := eq_true q114; have p115 : 0 ≤ ((ji7) : Int) := of_decide_eq_true (by first | (with_reducible assumption) | assumption); have q115 : (ji7) < (l0.length : Int) := of_decide_eq_true (by first | (with_reducible assumption) | assumption); obtain ⟨ad115, e115, hx115_0, hx115_1, hx115_2, hx115_3⟩ := at_T51 HR0.out (ji7) p115 q115; obtain rfl : ad111 = ad115 := (by injection e115); replace hx115_0 := (HB.out.cell (lc_ w _ hx115_0)).trans hx115_0; replace hx115_1 := (HB.out.cell (lc_ w _ hx115_1)).trans hx115_1; replace hx115_2 := (HB.out.cell (lc_ w _ hx115_2)).trans hx115_2; replace hx115_3 := (HB.out.cell (lc_ w _ hx115_3)).trans hx115_3; replace p115 := eq_true p115; replace q115 := eq_true q115; have p116 : 0 ≤ (x3_1 : Int) := of_decide_eq_true (by first | (with_reducible assumption) | assumption); have q116 : x3_1 < (l0.length : Int) := of_decide_eq_true (by first | (with_reducible assumption) | assumption); obtain ⟨ad116, e116, hx116_0, hx116_1, hx116_2, hx116_3⟩ := at_T51 HR0.out x3_1 p116 q116; obtain rfl : ad111 = ad116 := (by injection e116); replace hx116_0 := (HB.out.cell (lc_ w _ hx116_0)).trans hx116_0; replace hx116_1 := (HB.out.cell (lc_ w _ hx116_1)).trans hx116_1; replace hx116_2 := (HB.out.cell (lc_ w _ hx116_2)).trans hx116_2; replace hx116_3 := (HB.out.cell (lc_ w _ hx116_3)).trans hx116_3; replace p116 := eq_true p116; replace q116 := eq_true q116; have p117 : 0 ≤ ((ji7) : Int) := of_decide_eq_true (by first | (with_reducible assumption) | assumption); have q117 : (ji7) < (l0.length : Int) := of_decide_eq_true (by first | (with_reducible assumption) | assumption); obtain ⟨ad117, e117, hx117_0, hx117_1, hx117_2, hx117_3⟩ := at_T51 HR0.out (ji7) p117 q117; obtain rfl : ad111 = ad117 := (by injection e117); replace hx117_0 := (HB.out.cell (lc_ w _ hx117_0)).trans hx117_0; replace hx117_1 := (HB.out.cell (lc_ w _ hx117_1)).trans hx117_1; replace hx117_2 := (HB.out.cell (lc_ w _ hx117_2)).trans hx117_2; replace hx117_3 := (HB.out.cell (lc_ w _ hx117_3)).trans hx117_3; replace p117 := eq_true p117; replace q117 := eq_true q117; have p118 : 0 ≤ (x3_1 : Int) := of_decide_eq_true (by first | (with_reducible assumption) | assumption); have q118 : x3_1 < (l0.length : Int) := of_decide_eq_true (by first | (with_reducible assumption) | assumption); obtain ⟨ad118, e118, hx118_0, hx118_1, hx118_2, hx118_3⟩ := at_T51 HR0.out x3_1 p118 q118; obtain rfl : ad111 = ad118 := (by injection e118); replace hx118_0 := (HB.out.cell (lc_ w _ hx118_0)).trans hx118_0; replace hx118_1 := (HB.out.cell (lc_ w _ hx118_1)).trans hx118_1; replace hx118_2 := (HB.out.cell (lc_ w _ hx118_2)).trans hx118_2; replace hx118_3 := (HB.out.cell (lc_ w _ hx118_3)).trans hx118_3; replace p118 := eq_true p118; replace q118 := eq_true q118)); try go_wp2_with (first | (go_at_call 121; (with_reducible refine (spec_RouteOk.calls ((rd_T51 l0 x3_1).f0) ((rd_T51 l0 x3_1).f1) ((rd_T51 l0 x3_1).f2) ((rd_T51 l0 x3_1).f3) true _ A4.out).mono ?_); rintro e w15 ⟨rfl, hb⟩; have n0_ := mk_ (below_step (ub_ HB.out) hb); clear HB; have HB := n0_; clear n0_; (try clear hb); (try clear hb2); (try clear hk); (try clear hi); have p113 : 0 ≤ ((ji7) : Int) := of_decide_eq_true (by first | (with_reducible assumption) | assumption); have q113 : (ji7) < (l0.length : Int) := of_decide_eq_true (by first | (with_reducible assumption) | assumption); obtain ⟨ad113, e113, hx113_0, hx113_1, hx113_2, hx113_3⟩ := at_T51 HR0.out (ji7) p113 q113; obtain rfl : ad111 = ad113 := (by injection e113); replace hx113_0 := (HB.out.cell (lc_ w _ hx113_0)).trans hx113_0; replace hx113_1 := (HB.out.cell (lc_ w _ hx113_1)).trans hx113_1; replace hx113_2 := (HB.out.cell (lc_ w _ hx113_2)).trans hx113_2; replace hx113_3 := (HB.out.cell (lc_ w _ hx113_3)).trans hx113_3; replace p113 := eq_true p113; replace q113 := eq_true q113; have p114 : 0 ≤ (x3_1 : Int) := of_decide_eq_true (by first | (with_reducible assumption) | assumption); have q114 : x3_1 < (l0.length : Int) := of_decide_eq_true (by first | (with_reducible assumption) | assumption); obtain ⟨ad114, e114, hx114_0, hx114_1, hx114_2, hx114_3⟩ := at_T51 HR0.out x3_1 p114 q114; obtain rfl : ad111 = ad114 := (by injection e114); replace hx114_0 := (HB.out.cell (lc_ w _ hx114_0)).trans hx114_0; replace hx114_1 := (HB.out.cell (lc_ w _ hx114_1)).trans hx114_1; replace hx114_2 := (HB.out.cell (lc_ w _ hx114_2)).trans hx114_2; replace hx114_3 := (HB.out.cell (lc_ w _ hx114_3)).trans hx114_3; replace p114 := eq_true p114; replace q114 := eq_true q114; have p115 : 0 ≤ ((ji7) : Int) := of_decide_eq_true (by first | (with_reducible assumption) | assumption); have q115 : (ji7) < (l0.length : Int) := of_decide_eq_true (by first | (with_reducible assumption) | assumption); obtain ⟨ad115, e115, hx115_0, hx115_1, hx115_2, hx115_3⟩ := at_T51 HR0.out (ji7) p115 q115; obtain rfl : ad111 = ad115 := (by injection e115); replace hx115_0 := (HB.out.cell (lc_ w _ hx115_0)).trans hx115_0; replace hx115_1 := (HB.out.cell (lc_ w _ hx115_1)).trans hx115_1; replace hx115_2 := (HB.out.cell (lc_ w _ hx115_2)).trans hx115_2; replace hx115_3 := (HB.out.cell (lc_ w _ hx115_3)).trans hx115_3; replace p115 := eq_true p115; replace q115 := eq_true q115; have p116 : 0 ≤ (x3_1 : Int) := of_decide_eq_true (by first | (with_reducible assumption) | assumption); have q116 : x3_1 < (l0.length : Int) := of_decide_eq_true (by first | (with_reducible assumption) | assumption); obtain ⟨ad116, e116, hx116_0, hx116_1, hx116_2, hx116_3⟩ := at_T51 HR0.out x3_1 p116 q116; obtain rfl : ad111 = ad116 := (by injection e116); replace hx116_0 := (HB.out.cell (lc_ w _ hx116_0)).trans hx116_0; replace hx116_1 := (HB.out.cell (lc_ w _ hx116_1)).trans hx116_1; replace hx116_2 := (HB.out.cell (lc_ w _ hx116_2)).trans hx116_2; replace hx116_3 := (HB.out.cell (lc_ w _ hx116_3)).trans hx116_3; replace p116 := eq_true p116; replace q116 := eq_true q116; have p117 : 0 ≤ ((ji7) : Int) := of_decide_eq_true (by first | (with_reducible assumption) | assumption); have q117 : (ji7) < (l0.length : Int) := of_decide_eq_true (by first | (with_reducible assumption) | assumption); obtain ⟨ad117, e117, hx117_0, hx117_1, hx117_2, hx117_3⟩ := at_T51 HR0.out (ji7) p117 q117; obtain rfl : ad111 = ad117 := (by injection e117); replace hx117_0 := (HB.out.cell (lc_ w _ hx117_0)).trans hx117_0; replace hx117_1 := (HB.out.cell (lc_ w _ hx117_1)).trans hx117_1; replace hx117_2 := (HB.out.cell (lc_ w _ hx117_2)).trans hx117_2; replace hx117_3 := (HB.out.cell (lc_ w _ hx117_3)).trans hx117_3; replace p117 := eq_true p117; replace q117 := eq_true q117; have p118 : 0 ≤ (x3_1 : Int) := of_decide_eq_true (by first | (with_reducible assumption) | assumption); have q118 : x3_1 < (l0.length : Int) := of_decide_eq_true (by first | (with_reducible assumption) | assumption); obtain ⟨ad118, e118, hx118_0, hx118_1, hx118_2, hx118_3⟩ := at_T51 HR0.out x3_1 p118 q118; obtain rfl : ad111 = ad118 := (by injection e118); replace hx118_0 := (HB.out.cell (lc_ w _ hx118_0)).trans hx118_0; replace hx118_1 := (HB.out.cell (lc_ w _ hx118_1)).trans hx118_1; replace hx118_2 := (HB.out.cell (lc_ w _ hx118_2)).trans hx118_2; replace hx118_3 := (HB.out.cell (lc_ w _ hx118_3)).trans hx118_3; replace p118 := eq_true p118; replace q118 := eq_true q118)))
   go_roundg k1
   case measure => have := HK1.out; omega
   case rel => exact ⟨(wrap64 (x3_1 + 1)), (by first | rfl | (simp; done) | (simp [*]; done)), H', ⟨by have := HK1.out; omega⟩, ⟨ub_ HB.out⟩⟩

/-! ### spec_StationOk: function 108 -/
def spec_StationOk.f (k : Nat) (a0_0 : Int) (l0_1 : List (S51)) : Option (Bool) := (spec_l1In.f a0_0 0 65535).bind fun t120 => (if t120 = true then ((spec_RoutesOk.f k l0_1).bind fun t121 => (some t121)) else (some false))
theorem spec_StationOk.mono : ∀ a0 a1 k, LeO (spec_StationOk.f k a0 a1) (spec_StationOk.f (k + 1) a0 a1) := by
 intro a0 a1 k
 unfold spec_StationOk.f
 repeat' first
   | (with_reducible exact spec_RoutesOk.mono _ _)
   | (with_reducible exact LeO.refl _)
   | (with_reducible exact LeO.none _)
   | (with_reducible refine LeO.ite ?_ ?_)
   | (with_reducible refine LeO.bind ?_ (fun _ => ?_))
   | exact spec_RoutesOk.mono _ _
   | exact LeO.none _
   | refine LeO.ite ?_ ?_
   | refine LeO.bind ?_ (fun _ => ?_)
set_option maxHeartbeats 8000000 in
set_option maxRecDepth 100000 in
theorem spec_StationOk.calls (k : Nat) (a0_0 : Int) (A0_1 : Option Addr) (c0_1 : Nat) (l0_1 : List (S51)) (r : Bool) (w : World) (hr0_1 : Kd.C k51 w A0_1 l0_1.length l0_1) (hc0_1 : l0_1.length ≤ c0_1) (h : spec_StationOk.f k a0_0 l0_1 = some r) :
  Calls Try.prog 108 #[.agg #[.int .i64 a0_0, .slice A0_1 l0_1.length c0_1]] w fun e w' => e = .returned (.bool r) ∧ Below w.heap.size w w' := by
 have hu56 := Try.underlying56
 have HR0_1 := mk_ hr0_1
 have HC0_1 := mk_ hc0_1
 clear hr0_1 hc0_1
 have HB := mk_ (Below.refl w.heap.size w)
 have H : ((spec_l1In.f a0_0 0 65535).bind fun t120 => (if t120 = true then ((spec_RoutesOk.f k l0_1).bind fun t121 => (some t121)) else (some false))) = some r := h
 clear h
 replace H := Option.bind_eq_some_iff.mp H
 obtain ⟨t120, A20, H⟩ := H
 replace H : (if t120 = true then ((spec_RoutesOk.f k l0_1).bind fun t121 => (some t121)) else (some false)) = some r := H
 have A2 := mk_ A20
 clear A20
 by_cases c3 : t120 = true
 rotate_left
 ·replace c3 := Bool.eq_false_iff.mpr c3
  subst c3
  have H1 : (some false) = some r := by rw [if_neg (show ¬ (false = true) by decide)] at H; exact H
  clear H
  have H := H1
  clear H1
  obtain rfl := Option.some.inj H
  go_enter Try.func108, Try.ntmps108
  go_wp2_with (first | ((with_reducible refine gate_dst (N := 1) rfl ?_); refine box_event ?hg (N := 1) ?hd (cs := #[.int .i64 a0_0, .slice A0_1 l0_1.length c0_1]) (t := 56) ?hr ?_; (case hd => rfl); (case hg => rfl); (case hr => first | (go_simp; done) | (go_simp; rfl)); intro gb119 hg w8 hbox hb; have n0_ := mk_ (below_step (ub_ HB.out) hb); have n1_ := mk_ (hbox); have n2_ := mk_ ((by rw [hg]; exact (below_size (ub_ HB.out)) : w.heap.size ≤ gb119)); have n3_ := mk_ ((by rw [hg]; exact (below_size (ub_ HB.out)) : w.heap.size ≤ gb119)); clear HB; have HB := n0_; have BK119 := n1_; have GW119 := n2_; have GE119 := ge_ n3_.out; clear n0_ n1_ n2_ n3_; clear hb hbox hg; obtain ⟨hcz9_0, hcz9_1, hfz9_0, hfz9_1⟩ := cells2_ BK119.out) | ((with_reducible refine gate_callee (f := 52) rfl ?_); refine goesL_ (some 5) rfl rfl Try.func52 (by kernel_rfl) rfl #[.int .i64 a0_0, .int .i64 0, .int .i64 65535] rfl (by (try simp only [lm_, lo_, ln_]); first | done | rfl | (simp only [List.length_drop, List.length_take]; rfl)) ?_; (with_reducible refine (spec_l1In.calls a0_0 0 65535 false _ A2.out).mono ?_); rintro e w' ⟨rfl, ⟨nd, rfl⟩⟩; refine ⟨_, rfl, ?_⟩))
  go_ret
  exact ⟨by first | rfl | (simp [errW_none, errW_some] <;> rfl) | (simp [*, errW_none, errW_some] <;> rfl), us_ HB.out⟩
 subst c3
 have H1 : ((spec_RoutesOk.f k l0_1).bind fun t121 => (some t121)) = some r := by rw [if_pos rfl] at H; exact H
 clear H
 have H := H1
 clear H1
 replace H := Option.bind_eq_some_iff.mp H
 obtain ⟨t121, A40, H⟩ := H
 replace H : (some t121) = some r := H
 have A4 := mk_ A40
 clear A40
 obtain rfl := Option.some.inj H
 go_enter Try.func108, Try.ntmps108
 go_wp2_with (first | ((with_reducible refine gate_dst (N := 1) rfl ?_); refine box_event ?hg (N := 1) ?hd (cs := #[.int .i64 a0_0, .slice A0_1 l0_1.length c0_1]) (t := 56) ?hr ?_; (case hd => rfl); (case hg => rfl); (case hr => first | (go_simp; done) | (go_simp; rfl)); intro gb119 hg w5 hbox hb; have n0_ := mk_ (below_step (ub_ HB.out) hb); have n1_ := mk_ (hbox); have n2_ := mk_ ((by rw [hg]; exact (below_size (ub_ HB.out)) : w.heap.size ≤ gb119)); have n3_ := mk_ ((by rw [hg]; exact (below_size (ub_ HB.out)) : w.heap.size ≤ gb119)); clear HB; have HB := n0_; have BK119 := n1_; have GW119 := n2_; have GE119 := ge_ n3_.out; clear n0_ n1_ n2_ n3_; clear hb hbox hg; obtain ⟨hcz6_0, hcz6_1, hfz6_0, hfz6_1⟩ := cells2_ BK119.out) | ((with_reducible refine gate_callee (f := 52) rfl ?_); refine goesL_ (some 5) rfl rfl Try.func52 (by kernel_rfl) rfl #[.int .i64 a0_0, .int .i64 0, .int .i64 65535] rfl (by (try simp only [lm_, lo_, ln_]); first | done | rfl | (simp only [List.length_drop, List.length_take]; rfl)) ?_; (with_reducible refine (spec_l1In.calls a0_0 0 65535 true _ A2.out).mono ?_); rintro e w' ⟨rfl, ⟨nd, rfl⟩⟩; refine ⟨_, rfl, ?_⟩) | (go_at_call 76; (with_reducible refine (spec_RoutesOk.calls k _ _ l0_1 t121 _ ?side1 ?side2 A4.out).mono ?_); (case side1 => repeat (first | exact (Kd.C_below HR0_1.out (us_ HB.out)) | (with_reducible refine Kd.C_alloc ?_ _) | (with_reducible refine Kd.C_drewN ?_ _) | (with_reducible refine Kd.C_drew ?_))); (case side2 => exact HC0_1.out); rintro e w7 ⟨rfl, hb⟩; have n0_ := mk_ (blk_below (u_ BK119.out) hb); have n1_ := mk_ (below_step (us_ HB.out) hb); clear BK119; clear HB; have BK119 := n0_; have HB := n1_; clear n0_ n1_; (try clear hb); (try clear hb2); (try clear hk); (try clear hi)))
 go_ret
 exact ⟨by first | rfl | (simp [errW_none, errW_some] <;> rfl) | (simp [*, errW_none, errW_some] <;> rfl), us_ HB.out⟩

end Go.Proofs.Ytdclgfdkomoedaa.MFnExactPathRoom
