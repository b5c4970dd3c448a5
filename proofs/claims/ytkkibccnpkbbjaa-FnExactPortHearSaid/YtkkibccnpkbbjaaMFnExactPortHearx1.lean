/- Functions that the law FnExactPortHear reaches, each with the proof that the machine's call comes to just its answer; no conditions but those that each theorem states. Printed by a program of this session over the kit's print. -/
import Derived.Test.YtkkibccnpkbbjaaMFnExactPortHearx0
namespace Go.Proofs.Ytkkibccnpkbbjaa.MFnExactPortHear
open Go.RowKit Go.Proofs.YtkkibccnpkbbjaaV.PrintWords Go.Proofs.YtkkibccnpkbbjaaV.PrintLast Go.Proofs.YtkkibccnpkbbjaaV.PrintMore
attribute [local go_sem] max2_int min2_int max_two min_two max_three min_three max_four min_four   -- for this text's walks alone
set_option linter.unusedVariables false
set_option linter.unusedSimpArgs false

/-! ### laws_szByteS: function 63 -/
def laws_szByteS.f (l0 : List Int) (a1 : Int) : Option (Int) := if (wrap64 (a1 - (l0.length : Int))) < 0 then (some (-1)) else (some (wrap64 (a1 - (l0.length : Int))))
set_option maxHeartbeats 8000000 in
set_option maxRecDepth 100000 in
theorem laws_szByteS.calls (A0 : Option Addr) (c0 : Nat) (l0 : List Int) (a1 : Int) (r : Int) (w : World) (hr0 : Kd.C (Kd.int .u8) w A0 l0.length l0) (hc0 : l0.length ≤ c0) (h : laws_szByteS.f l0 a1 = some r) :
  Calls Try.prog 63 #[.slice A0 l0.length c0, .int .i64 a1] w fun e w' => e = .returned (.int .i64 r) ∧ Drawn0 w w' := by
 have HR0 := mk_ hr0
 have HC0 := mk_ hc0
 clear hr0 hc0
 have H := h
 unfold laws_szByteS.f at H
 clear h
 by_cases c3 : (wrap64 (a1 - (l0.length : Int))) < 0
 focus
  rw [if_pos c3] at H
  have c3b0 : decide ((wrap64 (a1 - (l0.length : Int))) < 0) = true := decide_eq_true c3
  clear c3
  obtain rfl := Option.some.inj H
 rotate_left
 focus
  rw [if_neg c3] at H
  have c3b0 : decide ((wrap64 (a1 - (l0.length : Int))) < 0) = false := decide_eq_false c3
  clear c3
  obtain rfl := Option.some.inj H
 rotate_left
 all_goals
  go_enter Try.func63, Try.ntmps63
  go_wp2
  go_ret
  exact ⟨by first | rfl | (simp; done) | (simp [*]; done), by repeat (first | exact Drawn0.refl _ | apply Drawn0.step)⟩

/-! ### laws_szMail: function 97 -/
def laws_szMail.f (a0_0 : Int) (a0_1 : Int) (a0_2 : Int) (l0_3 : List Int) (a1 : Int) : Option (Int) := (laws_szByteS.f l0_3 a1).bind fun t102 => (if t102 < 0 then (some (-1)) else (some t102))
set_option maxHeartbeats 8000000 in
set_option maxRecDepth 100000 in
theorem laws_szMail.calls (a0_0 : Int) (a0_1 : Int) (a0_2 : Int) (A0_3 : Option Addr) (c0_3 : Nat) (l0_3 : List Int) (a1 : Int) (r : Int) (w : World) (hr0_3 : Kd.C (Kd.int .u8) w A0_3 l0_3.length l0_3) (hc0_3 : l0_3.length ≤ c0_3) (h : laws_szMail.f a0_0 a0_1 a0_2 l0_3 a1 = some r) :
  Calls Try.prog 97 #[.agg #[.int .i64 a0_0, .int .i64 a0_1, .int .i64 a0_2, .slice A0_3 l0_3.length c0_3], .int .i64 a1] w fun e w' => e = .returned (.int .i64 r) ∧ Below w.heap.size w w' := by
 have hu105 := Try.underlying105
 have HR0_3 := mk_ hr0_3
 have HC0_3 := mk_ hc0_3
 clear hr0_3 hc0_3
 have HB := mk_ (Below.refl w.heap.size w)
 have H := h
 unfold laws_szMail.f at H
 clear h
 replace H := Option.bind_eq_some_iff.mp H
 obtain ⟨t102, A30, H⟩ := H
 replace H : (if t102 < 0 then (some (-1)) else (some t102)) = some r := H
 have A3 := mk_ A30
 clear A30
 by_cases c4 : t102 < 0
 focus
  rw [if_pos c4] at H
  have c4b0 : decide (t102 < 0) = true := decide_eq_true c4
  clear c4
  obtain rfl := Option.some.inj H
 rotate_left
 focus
  rw [if_neg c4] at H
  have c4b0 : decide (t102 < 0) = false := decide_eq_false c4
  clear c4
  obtain rfl := Option.some.inj H
 rotate_left
 all_goals
  go_enter Try.func97, Try.ntmps97
  go_wp2_with (first | ((with_reducible refine gate_dst (N := 2) rfl ?_); refine box_event ?hg (N := 2) ?hd (cs := #[.int .i64 a0_0, .int .i64 a0_1, .int .i64 a0_2, .slice A0_3 l0_3.length c0_3]) (t := 105) ?hr ?_; (case hd => rfl); (case hg => rfl); (case hr => first | (go_simp; done) | (go_simp; rfl)); intro gb1200 hg w1201 hbox hb; have n0_ := mk_ (below_step (ub_ HB.out) hb); have BK101 := mk_ (hbox); have GW101 := mk_ ((by rw [hg]; exact (below_size (ub_ HB.out)) : w.heap.size ≤ gb1200)); have GE101 := ge_ ((by rw [hg]; exact (below_size (ub_ HB.out)) : w.heap.size ≤ gb1200)); replace HB := n0_; clear n0_; clear hb hbox hg; obtain ⟨hcz50101_0, hcz50101_1, hcz50101_2, hcz50101_3, hfz50101_0, hfz50101_1, hfz50101_2, hfz50101_3⟩ := cells4_ BK101.out) | ((with_reducible refine gate_callee (f := 63) rfl ?_); refine goesL_ (some 8) rfl rfl Try.func63 (by kernel_rfl) rfl #[.slice A0_3 l0_3.length c0_3, .int .i64 a1] rfl (by (try simp only [lm_, lo_, ln_]); try rfl) ?_; (with_reducible refine (laws_szByteS.calls _ _ l0_3 a1 t102 _ ?side1 ?side2 A3.out).mono ?_); (case side1 => repeat (first | exact (Kd.C_below HR0_3.out HB.out) | (with_reducible refine Kd.C_alloc ?_ _) | (with_reducible refine Kd.C_drewN ?_ _) | (with_reducible refine Kd.C_drew ?_))); (case side2 => exact HC0_3.out); rintro e w' ⟨rfl, ⟨nd, rfl⟩⟩; refine ⟨_, rfl, ?_⟩))
  go_ret
  exact ⟨by first | rfl | (simp [errW_none, errW_some] <;> rfl) | (simp [*, errW_none, errW_some] <;> rfl), us_ HB.out⟩

/-! ### laws_szMailS: function 74 -/
def laws_szMailS.l0 : Nat → List (S105) → Int → Int → Option (Int)
 | 0, _, _, _ => none
 | k + 1, x0, x1, x5 => if x5 < (x0.length : Int) then (if 0 ≤ x5 then ((laws_szMail.f ((rd_T105 x0 x5).f0) ((rd_T105 x0 x5).f1) ((rd_T105 x0 x5).f2) ((rd_T105 x0 x5).f3) x1).bind fun t104 => (if t104 < 0 then (some (-1)) else (laws_szMailS.l0 k x0 t104 (wrap64 (x5 + 1))))) else (none)) else (some x1)
def laws_szMailS.f (k : Nat) (l0 : List (S105)) (a1 : Int) : Option (Int) := if (wrap64 (a1 - (l0.length : Int))) < 0 then (some (-1)) else (laws_szMailS.l0 k l0 (wrap64 (a1 - (l0.length : Int))) 0)
theorem laws_szMailS.mono_l : ∀ k, (∀ y0 y1 y2, LeO (laws_szMailS.l0 k y0 y1 y2) (laws_szMailS.l0 (k + 1) y0 y1 y2))
 | 0 => fun _ _ _ r h => by simp [laws_szMailS.l0] at h
 | k + 1 => by
  have ih0 := laws_szMailS.mono_l k
  ·intro y0 y1 y2
   unfold laws_szMailS.l0
   repeat' first
   | (with_reducible exact ih0 _ _ _)
   | (with_reducible exact LeO.refl _)
   | (with_reducible exact LeO.none _)
   | (with_reducible refine LeO.ite ?_ ?_)
   | (with_reducible refine LeO.bind ?_ (fun _ => ?_))
   | exact ih0 _ _ _
   | exact LeO.none _
   | refine LeO.ite ?_ ?_
   | refine LeO.bind ?_ (fun _ => ?_)
theorem laws_szMailS.mono : ∀ a0 a1 k, LeO (laws_szMailS.f k a0 a1) (laws_szMailS.f (k + 1) a0 a1) := by
 intro a0 a1 k
 have ih0 := laws_szMailS.mono_l k
 unfold laws_szMailS.f
 repeat' first
   | (with_reducible exact ih0 _ _ _)
   | (with_reducible exact LeO.refl _)
   | (with_reducible exact LeO.none _)
   | (with_reducible refine LeO.ite ?_ ?_)
   | (with_reducible refine LeO.bind ?_ (fun _ => ?_))
   | exact ih0 _ _ _
   | exact LeO.none _
   | refine LeO.ite ?_ ?_
   | refine LeO.bind ?_ (fun _ => ?_)
set_option maxHeartbeats 8000000 in
set_option maxRecDepth 100000 in
theorem laws_szMailS.calls (k : Nat) (A0 : Option Addr) (c0 : Nat) (l0 : List (S105)) (a1 : Int) (r : Int) (w : World) (hr0 : Kd.C k105 w A0 l0.length l0) (hc0 : l0.length ≤ c0) (h : laws_szMailS.f k l0 a1 = some r) :
  Calls Try.prog 74 #[.slice A0 l0.length c0, .int .i64 a1] w fun e w' => e = .returned (.int .i64 r) ∧ Below w.heap.size w w' := by
 have hu105 := Try.underlying105
 have HR0 := mk_ hr0
 have HC0 := mk_ hc0
 clear hr0 hc0
 have HB := mk_ (Below.refl w.heap.size w)
 have H := h
 unfold laws_szMailS.f at H
 clear h
 by_cases c3 : (wrap64 (a1 - (l0.length : Int))) < 0
 ·rw [if_pos c3] at H
  have c3b0 : decide ((wrap64 (a1 - (l0.length : Int))) < 0) = true := decide_eq_true c3
  clear c3
  obtain rfl := Option.some.inj H
  go_enter Try.func74, Try.ntmps74
  go_wp2
  go_ret
  exact ⟨by first | rfl | (simp [errW_none, errW_some] <;> rfl) | (simp [*, errW_none, errW_some] <;> rfl), by repeat (first | (with_reducible first | exact HB.out | apply na_ | apply nn_ | apply nw_) | exact HB.out)⟩
 rw [if_neg c3] at H
 have c3b0 : decide ((wrap64 (a1 - (l0.length : Int))) < 0) = false := decide_eq_false c3
 clear c3
 have H' := mk_ H
 clear H
 go_enter Try.func74, Try.ntmps74
 go_wp2
 go_loopg [1, 5] k (fun kq v1 v5 w' => ∃ (x1_1 : Int) (x5_1 : Int), v1 = .int .i64 x1_1 ∧ v5 = .int .i64 x5_1 ∧ Aside0 (laws_szMailS.l0 kq l0 x1_1 x5_1 = some r) ∧ Aside0 (kq ≤ k) ∧ Aside0 (Below w.heap.size w w'))
 case atStart => exact ⟨(wrap64 (a1 - (l0.length : Int))), (0), (by first | rfl | (simp; done) | (simp [*]; done)), (by first | rfl | (simp; done) | (simp [*]; done)), H', ⟨Nat.le_refl _⟩, ⟨ub_ HB.out⟩⟩
 case round =>
  clear H'
  try clear p2
  try clear c3
  try clear c3b0
  obtain ⟨x1_1, x5_1, rfl, rfl, HA, HK1, HB⟩ := hrel
  cases gk with
  | zero => exact absurd HA.out (by simp [laws_szMailS.l0])
  | succ k1 =>
   have H := HA.out
   clear HA
   simp only [laws_szMailS.l0] at H
   by_cases c4 : x5_1 < (l0.length : Int)
   rotate_left
   focus
    rw [if_neg c4] at H
    have c4b0 : decide (x5_1 < (l0.length : Int)) = false := decide_eq_false c4
    clear c4
    obtain rfl := Option.some.inj H
   rotate_left
   focus
    rw [if_pos c4] at H
    have c4b0 : decide (x5_1 < (l0.length : Int)) = true := decide_eq_true c4
    clear c4
    by_cases c5 : 0 ≤ x5_1
    rotate_left
    ·rw [if_neg c5] at H
     exact absurd H (by simp)
    rw [if_pos c5] at H
    have c5b0 : decide (0 ≤ x5_1) = true := decide_eq_true c5
    clear c5
    replace H := Option.bind_eq_some_iff.mp H
    obtain ⟨t104, A60, H⟩ := H
    replace H : (if t104 < 0 then (some (-1)) else (laws_szMailS.l0 k1 l0 t104 (wrap64 (x5_1 + 1)))) = some r := H
    have A6 := mk_ A60
    clear A60
    by_cases c7 : t104 < 0
    focus
     rw [if_pos c7] at H
     have c7b0 : decide (t104 < 0) = true := decide_eq_true c7
     clear c7
     obtain rfl := Option.some.inj H
     have p103 : 0 ≤ (x5_1 : Int) := of_decide_eq_true (by first | (with_reducible assumption) | assumption)
     have q103 : x5_1 < (l0.length : Int) := of_decide_eq_true (by first | (with_reducible assumption) | assumption)
     obtain ⟨ad103, A103_3, c103_3, e103, hx103_0, hx103_1, hx103_2, hx103_3, hl103_3, hi103_3⟩ := at_T105 HR0.out x5_1 p103 q103
     cases e103
     replace hx103_0 := (HB.out.cell (lc_ w _ hx103_0)).trans hx103_0
     replace hx103_1 := (HB.out.cell (lc_ w _ hx103_1)).trans hx103_1
     replace hx103_2 := (HB.out.cell (lc_ w _ hx103_2)).trans hx103_2
     replace hx103_3 := (HB.out.cell (lc_ w _ hx103_3)).trans hx103_3
     have HR103_3 := mk_ hi103_3
     have HC103_3 := mk_ hl103_3
     clear hi103_3 hl103_3
     replace p103 := eq_true p103
     replace q103 := eq_true q103
    rotate_left
    focus
     rw [if_neg c7] at H
     have c7b0 : decide (t104 < 0) = false := decide_eq_false c7
     clear c7
     have H' := mk_ H
     clear H
     have p103 : 0 ≤ (x5_1 : Int) := of_decide_eq_true (by first | (with_reducible assumption) | assumption)
     have q103 : x5_1 < (l0.length : Int) := of_decide_eq_true (by first | (with_reducible assumption) | assumption)
     obtain ⟨ad103, A103_3, c103_3, e103, hx103_0, hx103_1, hx103_2, hx103_3, hl103_3, hi103_3⟩ := at_T105 HR0.out x5_1 p103 q103
     cases e103
     replace hx103_0 := (HB.out.cell (lc_ w _ hx103_0)).trans hx103_0
     replace hx103_1 := (HB.out.cell (lc_ w _ hx103_1)).trans hx103_1
     replace hx103_2 := (HB.out.cell (lc_ w _ hx103_2)).trans hx103_2
     replace hx103_3 := (HB.out.cell (lc_ w _ hx103_3)).trans hx103_3
     have HR103_3 := mk_ hi103_3
     have HC103_3 := mk_ hl103_3
     clear hi103_3 hl103_3
     replace p103 := eq_true p103
     replace q103 := eq_true q103
    rotate_left
   rotate_left 2
   all_goals
    go_wp2_with (first | ((with_reducible refine gate_callee (f := 97) rfl ?_); refine goesL_ (some 23) rfl rfl Try.func97 (by kernel_rfl) rfl #[.agg #[.int .i64 ((rd_T105 l0 x5_1).f0), .int .i64 ((rd_T105 l0 x5_1).f1), .int .i64 ((rd_T105 l0 x5_1).f2), .slice A103_3 ((rd_T105 l0 x5_1).f3).length c103_3], .int .i64 x1_1] rfl (by (try simp only [lm_, lo_, ln_]); try rfl) ?_; (with_reducible refine (laws_szMail.calls ((rd_T105 l0 x5_1).f0) ((rd_T105 l0 x5_1).f1) ((rd_T105 l0 x5_1).f2) _ _ ((rd_T105 l0 x5_1).f3) x1_1 t104 _ ?side1 ?side2 A6.out).mono ?_); (case side1 => repeat (first | exact (Kd.C_below HR103_3.out HB.out) | (with_reducible refine Kd.C_alloc ?_ _) | (with_reducible refine Kd.C_drewN ?_ _) | (with_reducible refine Kd.C_drew ?_))); (case side2 => exact HC103_3.out); rintro e w1440 ⟨rfl, hb⟩; refine ⟨_, rfl, ?_⟩; replace HB := mk_ (below_step (ub_ HB.out) hb)))
   iterate 2
    focus
     go_ret
     exact ⟨by first | rfl | (simp [errW_none, errW_some] <;> rfl) | (simp [*, errW_none, errW_some] <;> rfl), by repeat (first | (with_reducible first | exact HB.out | apply na_ | apply nn_ | apply nw_) | exact HB.out)⟩
   ·go_roundg k1
    case measure => have := HK1.out; omega
    case rel => exact ⟨(t104), (wrap64 (x5_1 + 1)), (by first | rfl | (simp; done) | (simp [*]; done)), (by first | rfl | (simp; done) | (simp [*]; done)), H', ⟨by have := HK1.out; omega⟩, ⟨ub_ HB.out⟩⟩

/-! ### laws_szPort: function 39 -/
def laws_szPort.f (k : Nat) (a0_0 : Int) (l0_1 : List (S105)) (a1 : Int) : Option (Int) := (laws_szMailS.f k l0_1 a1).bind fun t106 => (if t106 < 0 then (some (-1)) else (some t106))
theorem laws_szPort.mono : ∀ a0 a1 a2 k, LeO (laws_szPort.f k a0 a1 a2) (laws_szPort.f (k + 1) a0 a1 a2) := by
 intro a0 a1 a2 k
 unfold laws_szPort.f
 repeat' first
   | (with_reducible exact laws_szMailS.mono _ _ _)
   | (with_reducible exact LeO.refl _)
   | (with_reducible exact LeO.none _)
   | (with_reducible refine LeO.ite ?_ ?_)
   | (with_reducible refine LeO.bind ?_ (fun _ => ?_))
   | exact laws_szMailS.mono _ _ _
   | exact LeO.none _
   | refine LeO.ite ?_ ?_
   | refine LeO.bind ?_ (fun _ => ?_)
set_option maxHeartbeats 8000000 in
set_option maxRecDepth 100000 in
theorem laws_szPort.calls (k : Nat) (a0_0 : Int) (A0_1 : Option Addr) (c0_1 : Nat) (l0_1 : List (S105)) (a1 : Int) (r : Int) (w : World) (hr0_1 : Kd.C k105 w A0_1 l0_1.length l0_1) (hc0_1 : l0_1.length ≤ c0_1) (h : laws_szPort.f k a0_0 l0_1 a1 = some r) :
  Calls Try.prog 39 #[.agg #[.int .i64 a0_0, .slice A0_1 l0_1.length c0_1], .int .i64 a1] w fun e w' => e = .returned (.int .i64 r) ∧ Below w.heap.size w w' := by
 have hu64 := Try.underlying64
 have HR0_1 := mk_ hr0_1
 have HC0_1 := mk_ hc0_1
 clear hr0_1 hc0_1
 have HB := mk_ (Below.refl w.heap.size w)
 have H := h
 unfold laws_szPort.f at H
 clear h
 replace H := Option.bind_eq_some_iff.mp H
 obtain ⟨t106, A30, H⟩ := H
 replace H : (if t106 < 0 then (some (-1)) else (some t106)) = some r := H
 have A3 := mk_ A30
 clear A30
 by_cases c4 : t106 < 0
 focus
  rw [if_pos c4] at H
  have c4b0 : decide (t106 < 0) = true := decide_eq_true c4
  clear c4
  obtain rfl := Option.some.inj H
 rotate_left
 focus
  rw [if_neg c4] at H
  have c4b0 : decide (t106 < 0) = false := decide_eq_false c4
  clear c4
  obtain rfl := Option.some.inj H
 rotate_left
 all_goals
  go_enter Try.func39, Try.ntmps39
  go_wp2_with (first | ((with_reducible refine gate_dst (N := 2) rfl ?_); refine box_event ?hg (N := 2) ?hd (cs := #[.int .i64 a0_0, .slice A0_1 l0_1.length c0_1]) (t := 64) ?hr ?_; (case hd => rfl); (case hg => rfl); (case hr => first | (go_simp; done) | (go_simp; rfl)); intro gb1200 hg w1201 hbox hb; have n0_ := mk_ (below_step (ub_ HB.out) hb); have BK105 := mk_ (hbox); have GW105 := mk_ ((by rw [hg]; exact (below_size (ub_ HB.out)) : w.heap.size ≤ gb1200)); have GE105 := ge_ ((by rw [hg]; exact (below_size (ub_ HB.out)) : w.heap.size ≤ gb1200)); replace HB := n0_; clear n0_; clear hb hbox hg; obtain ⟨hcz50105_0, hcz50105_1, hfz50105_0, hfz50105_1⟩ := cells2_ BK105.out) | ((with_reducible refine gate_callee (f := 74) rfl ?_); refine goesL_ (some 8) rfl rfl Try.func74 (by kernel_rfl) rfl #[.slice A0_1 l0_1.length c0_1, .int .i64 a1] rfl (by (try simp only [lm_, lo_, ln_]); try rfl) ?_; (with_reducible refine (laws_szMailS.calls k _ _ l0_1 a1 t106 _ ?side1 ?side2 A3.out).mono ?_); (case side1 => repeat (first | exact (Kd.C_below HR0_1.out HB.out) | (with_reducible refine Kd.C_alloc ?_ _) | (with_reducible refine Kd.C_drewN ?_ _) | (with_reducible refine Kd.C_drew ?_))); (case side2 => exact HC0_1.out); rintro e w1640 ⟨rfl, hb⟩; refine ⟨_, rfl, ?_⟩; replace BK105 := mk_ (blk_below (u_ BK105.out) hb); replace HB := mk_ (below_step (us_ HB.out) hb)))
  go_ret
  exact ⟨by first | rfl | (simp [errW_none, errW_some] <;> rfl) | (simp [*, errW_none, errW_some] <;> rfl), us_ HB.out⟩

/-! ### laws_szPortS: function 11 -/
def laws_szPortS.l0 : Nat → List (S64) → Int → Int → Option (Int)
 | 0, _, _, _ => none
 | k + 1, x0, x1, x5 => if x5 < (x0.length : Int) then (if 0 ≤ x5 then ((laws_szPort.f k ((rd_T64 x0 x5).f0) ((rd_T64 x0 x5).f1) x1).bind fun t108 => (if t108 < 0 then (some (-1)) else (laws_szPortS.l0 k x0 t108 (wrap64 (x5 + 1))))) else (none)) else (some x1)
def laws_szPortS.f (k : Nat) (l0 : List (S64)) (a1 : Int) : Option (Int) := if (wrap64 (a1 - (l0.length : Int))) < 0 then (some (-1)) else (laws_szPortS.l0 k l0 (wrap64 (a1 - (l0.length : Int))) 0)
theorem laws_szPortS.mono_l : ∀ k, (∀ y0 y1 y2, LeO (laws_szPortS.l0 k y0 y1 y2) (laws_szPortS.l0 (k + 1) y0 y1 y2))
 | 0 => fun _ _ _ r h => by simp [laws_szPortS.l0] at h
 | k + 1 => by
  have ih0 := laws_szPortS.mono_l k
  ·intro y0 y1 y2
   unfold laws_szPortS.l0
   repeat' first
   | (with_reducible exact ih0 _ _ _)
   | (with_reducible exact laws_szPort.mono _ _ _ _)
   | (with_reducible exact LeO.refl _)
   | (with_reducible exact LeO.none _)
   | (with_reducible refine LeO.ite ?_ ?_)
   | (with_reducible refine LeO.bind ?_ (fun _ => ?_))
   | exact ih0 _ _ _
   | exact laws_szPort.mono _ _ _ _
   | exact LeO.none _
   | refine LeO.ite ?_ ?_
   | refine LeO.bind ?_ (fun _ => ?_)
theorem laws_szPortS.mono : ∀ a0 a1 k, LeO (laws_szPortS.f k a0 a1) (laws_szPortS.f (k + 1) a0 a1) := by
 intro a0 a1 k
 have ih0 := laws_szPortS.mono_l k
 unfold laws_szPortS.f
 repeat' first
   | (with_reducible exact ih0 _ _ _)
   | (with_reducible exact laws_szPort.mono _ _ _ _)
   | (with_reducible exact LeO.refl _)
   | (with_reducible exact LeO.none _)
   | (with_reducible refine LeO.ite ?_ ?_)
   | (with_reducible refine LeO.bind ?_ (fun _ => ?_))
   | exact ih0 _ _ _
   | exact laws_szPort.mono _ _ _ _
   | exact LeO.none _
   | refine LeO.ite ?_ ?_
   | refine LeO.bind ?_ (fun _ => ?_)
set_option maxHeartbeats 8000000 in
set_option maxRecDepth 100000 in
theorem laws_szPortS.calls (k : Nat) (A0 : Option Addr) (c0 : Nat) (l0 : List (S64)) (a1 : Int) (r : Int) (w : World) (hr0 : Kd.C k64 w A0 l0.length l0) (hc0 : l0.length ≤ c0) (h : laws_szPortS.f k l0 a1 = some r) :
  Calls Try.prog 11 #[.slice A0 l0.length c0, .int .i64 a1] w fun e w' => e = .returned (.int .i64 r) ∧ Below w.heap.size w w' := by
 have hu64 := Try.underlying64
 have HR0 := mk_ hr0
 have HC0 := mk_ hc0
 clear hr0 hc0
 have HB := mk_ (Below.refl w.heap.size w)
 have H := h
 unfold laws_szPortS.f at H
 clear h
 by_cases c3 : (wrap64 (a1 - (l0.length : Int))) < 0
 ·rw [if_pos c3] at H
  have c3b0 : decide ((wrap64 (a1 - (l0.length : Int))) < 0) = true := decide_eq_true c3
  clear c3
  obtain rfl := Option.some.inj H
  go_enter Try.func11, Try.ntmps11
  go_wp2
  go_ret
  exact ⟨by first | rfl | (simp [errW_none, errW_some] <;> rfl) | (simp [*, errW_none, errW_some] <;> rfl), by repeat (first | (with_reducible first | exact HB.out | apply na_ | apply nn_ | apply nw_) | exact HB.out)⟩
 rw [if_neg c3] at H
 have c3b0 : decide ((wrap64 (a1 - (l0.length : Int))) < 0) = false := decide_eq_false c3
 clear c3
 have H' := mk_ H
 clear H
 go_enter Try.func11, Try.ntmps11
 go_wp2
 go_loopg [1, 5] k (fun kq v1 v5 w' => ∃ (x1_1 : Int) (x5_1 : Int), v1 = .int .i64 x1_1 ∧ v5 = .int .i64 x5_1 ∧ Aside0 (laws_szPortS.l0 kq l0 x1_1 x5_1 = some r) ∧ Aside0 (kq ≤ k) ∧ Aside0 (Below w.heap.size w w'))
 case atStart => exact ⟨(wrap64 (a1 - (l0.length : Int))), (0), (by first | rfl | (simp; done) | (simp [*]; done)), (by first | rfl | (simp; done) | (simp [*]; done)), H', ⟨Nat.le_refl _⟩, ⟨ub_ HB.out⟩⟩
 case round =>
  clear H'
  try clear c1
  try clear p2
  try clear c3
  try clear c3b0
  obtain ⟨x1_1, x5_1, rfl, rfl, HA, HK1, HB⟩ := hrel
  cases gk with
  | zero => exact absurd HA.out (by simp [laws_szPortS.l0])
  | succ k1 =>
   have H := HA.out
   clear HA
   simp only [laws_szPortS.l0] at H
   by_cases c4 : x5_1 < (l0.length : Int)
   rotate_left
   focus
    rw [if_neg c4] at H
    have c4b0 : decide (x5_1 < (l0.length : Int)) = false := decide_eq_false c4
    clear c4
    obtain rfl := Option.some.inj H
   rotate_left
   focus
    rw [if_pos c4] at H
    have c4b0 : decide (x5_1 < (l0.length : Int)) = true := decide_eq_true c4
    clear c4
    by_cases c5 : 0 ≤ x5_1
    rotate_left
    ·rw [if_neg c5] at H
     exact absurd H (by simp)
    rw [if_pos c5] at H
    have c5b0 : decide (0 ≤ x5_1) = true := decide_eq_true c5
    clear c5
    replace H := Option.bind_eq_some_iff.mp H
    obtain ⟨t108, A60, H⟩ := H
    replace H : (if t108 < 0 then (some (-1)) else (laws_szPortS.l0 k1 l0 t108 (wrap64 (x5_1 + 1)))) = some r := H
    have A6 := mk_ A60
    clear A60
    by_cases c7 : t108 < 0
    focus
     rw [if_pos c7] at H
     have c7b0 : decide (t108 < 0) = true := decide_eq_true c7
     clear c7
     obtain rfl := Option.some.inj H
     have p107 : 0 ≤ (x5_1 : Int) := of_decide_eq_true (by first | (with_reducible assumption) | assumption)
     have q107 : x5_1 < (l0.length : Int) := of_decide_eq_true (by first | (with_reducible assumption) | assumption)
     obtain ⟨ad107, A107_1, c107_1, e107, hx107_0, hx107_1, hl107_1, hi107_1⟩ := at_T64 HR0.out x5_1 p107 q107
     cases e107
     replace hx107_0 := (HB.out.cell (lc_ w _ hx107_0)).trans hx107_0
     replace hx107_1 := (HB.out.cell (lc_ w _ hx107_1)).trans hx107_1
     have HR107_1 := mk_ hi107_1
     have HC107_1 := mk_ hl107_1
     clear hi107_1 hl107_1
     replace p107 := eq_true p107
     replace q107 := eq_true q107
    rotate_left
    focus
     rw [if_neg c7] at H
     have c7b0 : decide (t108 < 0) = false := decide_eq_false c7
     clear c7
     have H' := mk_ H
     clear H
     have p107 : 0 ≤ (x5_1 : Int) := of_decide_eq_true (by first | (with_reducible assumption) | assumption)
     have q107 : x5_1 < (l0.length : Int) := of_decide_eq_true (by first | (with_reducible assumption) | assumption)
     obtain ⟨ad107, A107_1, c107_1, e107, hx107_0, hx107_1, hl107_1, hi107_1⟩ := at_T64 HR0.out x5_1 p107 q107
     cases e107
     replace hx107_0 := (HB.out.cell (lc_ w _ hx107_0)).trans hx107_0
     replace hx107_1 := (HB.out.cell (lc_ w _ hx107_1)).trans hx107_1
     have HR107_1 := mk_ hi107_1
     have HC107_1 := mk_ hl107_1
     clear hi107_1 hl107_1
     replace p107 := eq_true p107
     replace q107 := eq_true q107
    rotate_left
   rotate_left 2
   all_goals
    go_wp2_with (first | ((with_reducible refine gate_callee (f := 39) rfl ?_); refine goesL_ (some 23) rfl rfl Try.func39 (by kernel_rfl) rfl #[.agg #[.int .i64 ((rd_T64 l0 x5_1).f0), .slice A107_1 ((rd_T64 l0 x5_1).f1).length c107_1], .int .i64 x1_1] rfl (by (try simp only [lm_, lo_, ln_]); try rfl) ?_; (with_reducible refine (laws_szPort.calls k1 ((rd_T64 l0 x5_1).f0) _ _ ((rd_T64 l0 x5_1).f1) x1_1 t108 _ ?side1 ?side2 A6.out).mono ?_); (case side1 => repeat (first | exact (Kd.C_below HR107_1.out HB.out) | (with_reducible refine Kd.C_alloc ?_ _) | (with_reducible refine Kd.C_drewN ?_ _) | (with_reducible refine Kd.C_drew ?_))); (case side2 => exact HC107_1.out); rintro e w1720 ⟨rfl, hb⟩; refine ⟨_, rfl, ?_⟩; replace HB := mk_ (below_step (ub_ HB.out) hb)))
   iterate 2
    focus
     go_ret
     exact ⟨by first | rfl | (simp [errW_none, errW_some] <;> rfl) | (simp [*, errW_none, errW_some] <;> rfl), by repeat (first | (with_reducible first | exact HB.out | apply na_ | apply nn_ | apply nw_) | exact HB.out)⟩
   ·go_roundg k1
    case measure => have := HK1.out; omega
    case rel => exact ⟨(t108), (wrap64 (x5_1 + 1)), (by first | rfl | (simp; done) | (simp [*]; done)), (by first | rfl | (simp; done) | (simp [*]; done)), H', ⟨by have := HK1.out; omega⟩, ⟨ub_ HB.out⟩⟩

/-! ### laws_toByteS: function 66 -/
def laws_toByteS.l0 : Nat → List Int → List Int → Int → Option (List Int)
 | 0, _, _, _ => none
 | k + 1, x0, x3, x4 => if x4 < (x0.length : Int) then (if 0 ≤ x4 then (if x4 < (x3.length : Int) then (laws_toByteS.l0 k x0 (x3.set (x4 : Int).toNat (rd x0 x4)) (wrap64 (x4 + 1))) else (none)) else (none)) else (some x3)
def laws_toByteS.f (k : Nat) (l0 : List Int) : Option (List Int) := if 0 ≤ (l0.length : Int) then (if ((l0.length : Int) : Int).toNat ≤ 281474976710656 then (laws_toByteS.l0 k l0 (List.replicate ((l0.length : Int) : Int).toNat 0) 0) else (none)) else (none)
theorem laws_toByteS.mono_l : ∀ k, (∀ y0 y1 y2, LeO (laws_toByteS.l0 k y0 y1 y2) (laws_toByteS.l0 (k + 1) y0 y1 y2))
 | 0 => fun _ _ _ r h => by simp [laws_toByteS.l0] at h
 | k + 1 => by
  have ih0 := laws_toByteS.mono_l k
  ·intro y0 y1 y2
   unfold laws_toByteS.l0
   repeat' first
   | (with_reducible exact ih0 _ _ _)
   | (with_reducible exact LeO.refl _)
   | (with_reducible exact LeO.none _)
   | (with_reducible refine LeO.ite ?_ ?_)
   | (with_reducible refine LeO.bind ?_ (fun _ => ?_))
   | exact ih0 _ _ _
   | exact LeO.none _
   | refine LeO.ite ?_ ?_
   | refine LeO.bind ?_ (fun _ => ?_)
theorem laws_toByteS.mono : ∀ a0 k, LeO (laws_toByteS.f k a0) (laws_toByteS.f (k + 1) a0) := by
 intro a0 k
 have ih0 := laws_toByteS.mono_l k
 unfold laws_toByteS.f
 repeat' first
   | (with_reducible exact ih0 _ _ _)
   | (with_reducible exact LeO.refl _)
   | (with_reducible exact LeO.none _)
   | (with_reducible refine LeO.ite ?_ ?_)
   | (with_reducible refine LeO.bind ?_ (fun _ => ?_))
   | exact ih0 _ _ _
   | exact LeO.none _
   | refine LeO.ite ?_ ?_
   | refine LeO.bind ?_ (fun _ => ?_)
set_option maxHeartbeats 8000000 in
set_option maxRecDepth 100000 in
theorem laws_toByteS.calls (k : Nat) (A0 : Option Addr) (c0 : Nat) (l0 : List Int) (r : List Int) (w : World) (hr0 : Kd.C (Kd.int .u8) w A0 l0.length l0) (hc0 : l0.length ≤ c0) (h : laws_toByteS.f k l0 = some r) :
  Calls Try.prog 66 #[.slice A0 l0.length c0] w fun e w' => ∃ v0_ : Value, e = .returned (v0_) ∧ Kd.R (Kd.int .u8) 5 w' w.heap.size (fun _ => True) v0_ r ∧ Below w.heap.size w w' := by
 have HR0 := mk_ hr0
 have HC0 := mk_ hc0
 clear hr0 hc0
 have HB := mk_ (Below.refl w.heap.size w)
 have H := h
 unfold laws_toByteS.f at H
 clear h
 by_cases c2 : 0 ≤ (l0.length : Int)
 rotate_left
 ·rw [if_neg c2] at H
  exact absurd H (by simp)
 rw [if_pos c2] at H
 have c2b0 := eq_true c2
 have c2b1 : decide (0 ≤ (l0.length : Int)) = true := decide_eq_true c2
 clear c2
 by_cases c3 : ((l0.length : Int) : Int).toNat ≤ 281474976710656
 rotate_left
 ·rw [if_neg c3] at H
  exact absurd H (by simp)
 rw [if_pos c3] at H
 have c3b0 := eq_true c3
 have c3b1 : decide (((l0.length : Int) : Int).toNat ≤ 281474976710656) = true := decide_eq_true c3
 clear c3
 obtain ⟨y109, hy109⟩ : ∃ y_ : List Int, y_ = (List.replicate ((l0.length : Int) : Int).toNat 0) := ⟨_, rfl⟩
 replace H : (laws_toByteS.l0 k l0 y109 0) = some r := by first | (rw [hy109]; with_reducible exact H) | (have H2_ := (Option.bind_some _ _).symm.trans H; rw [hy109]; with_reducible exact H2_) | (have H2_ := (Option.bind_some _ _).symm.trans H; with_reducible exact H2_) | with_reducible exact H | (rw [hy109]; exact H) | exact H
 have Ny109 := mk_ hy109
 clear hy109
 have H' := mk_ H
 clear H
 go_enter Try.func66, Try.ntmps66
 go_wp2_with (first | ((with_reducible refine gate_dst (N := 7) rfl ?_); refine Kd.R_make (Kd.int .u8) _ 5 rfl (N := 7) rfl 29 _ _ rfl (l0.length : Int) rfl rfl Try.underlying29 (.int .u8 0) 1 info5 rfl (by decide) (by omega) 0 (ok := fun _ => True) (okp := fun _ => True) rfl (fun _ hk => hk) trivial (of_decide_eq_true (by first | (with_reducible assumption) | assumption)) (Nat.le_trans (Nat.mul_le_mul_right _ (of_decide_eq_true (by first | (with_reducible assumption) | assumption) : (l0.length : Int).toNat ≤ 281474976710656)) (by omega)) (Below.refl _ _) (Nat.le_refl _) ?_; intro v110 w4 ho5 hb hg_ hnew_; clear hg_ hnew_; (first | rw [← Ny109.out] at ho5 | (simp only [Int.reduceToNat] at ho5; rw [← Ny109.out] at ho5)); have HO111 := mk_ (Kd.R_lower ho5 (below_size (ub_ HB.out))); replace HB := mk_ (below_step (ub_ HB.out) hb); clear hb ho5))
 go_loopg [4] k (fun kq v4 w' => ∃ (x3_1 : List Int) (x4_1 : Int), v4 = .int .i64 x4_1 ∧ Aside0 (laws_toByteS.l0 kq l0 x3_1 x4_1 = some r) ∧ Aside0 (kq ≤ k) ∧ Aside0 (Kd.R (Kd.int .u8) 5 w' w.heap.size (fun _ => True) v110 x3_1) ∧ Aside0 (Below w.heap.size w w'))
 case atStart => exact ⟨(y109), (0), (by first | rfl | (simp; done) | (simp [*]; done)), H', ⟨Nat.le_refl _⟩, ⟨Kd.ur_ HO111.out⟩, ⟨ub_ HB.out⟩⟩
 case round =>
  clear H'
  try clear c2
  try clear c2b0
  try clear c2b1
  try clear p2
  try clear c3
  try clear c3b0
  try clear c3b1
  obtain ⟨x3_1, x4_1, rfl, HA, HK1, HO_3, HB⟩ := hrel
  cases gk with
  | zero => exact absurd HA.out (by simp [laws_toByteS.l0])
  | succ k1 =>
   have H := HA.out
   clear HA
   simp only [laws_toByteS.l0] at H
   by_cases c6 : x4_1 < (l0.length : Int)
   rotate_left
   ·rw [if_neg c6] at H
    have c6b0 : decide (x4_1 < (l0.length : Int)) = false := decide_eq_false c6
    clear c6
    obtain rfl := Option.some.inj H
    go_wp2
    go_ret
    exact ⟨_, by first | rfl | (simp [errW_none, errW_some] <;> rfl) | (simp [*, errW_none, errW_some] <;> rfl), by (with_reducible repeat (first | apply Kd.R_alloc | apply Kd.R_drewN | apply Kd.R_drew)); exact HO_3.out, by repeat (first | (with_reducible first | exact HB.out | apply na_ | apply nn_ | apply nw_) | exact HB.out)⟩
   rw [if_pos c6] at H
   have c6b0 : decide (x4_1 < (l0.length : Int)) = true := decide_eq_true c6
   clear c6
   by_cases c7 : 0 ≤ x4_1
   rotate_left
   ·rw [if_neg c7] at H
    exact absurd H (by simp)
   rw [if_pos c7] at H
   have c7b0 : decide (0 ≤ x4_1) = true := decide_eq_true c7
   clear c7
   by_cases c8 : x4_1 < (x3_1.length : Int)
   rotate_left
   ·rw [if_neg c8] at H
    exact absurd H (by simp)
   rw [if_pos c8] at H
   have c8b0 : decide (x4_1 < (x3_1.length : Int)) = true := decide_eq_true c8
   clear c8
   obtain ⟨y113, hy113⟩ : ∃ y_ : List Int, y_ = (x3_1.set (x4_1 : Int).toNat (rd l0 x4_1)) := ⟨_, rfl⟩
   replace H : (laws_toByteS.l0 k1 l0 y113 (wrap64 (x4_1 + 1))) = some r := by first | (rw [hy113]; with_reducible exact H) | (have H2_ := (Option.bind_some _ _).symm.trans H; rw [hy113]; with_reducible exact H2_) | (have H2_ := (Option.bind_some _ _).symm.trans H; with_reducible exact H2_) | with_reducible exact H | (rw [hy113]; exact H) | exact H
   have Ny113 := mk_ hy113
   clear hy113
   have H' := mk_ H
   clear H
   have p112 : 0 ≤ (x4_1 : Int) := of_decide_eq_true (by first | (with_reducible assumption) | assumption)
   have q112 : x4_1 < (l0.length : Int) := of_decide_eq_true (by first | (with_reducible assumption) | assumption)
   obtain ⟨ad112, e112, hx112_0⟩ := Kd.at_int HR0.out x4_1 p112 q112
   cases e112
   replace hx112_0 := (HB.out.cell (lc_ w _ hx112_0)).trans hx112_0
   replace p112 := eq_true p112
   replace q112 := eq_true q112
   have p9 : 0 ≤ (x4_1 : Int) := of_decide_eq_true (by first | (with_reducible assumption) | assumption)
   have q9 : (x4_1 : Int) < ((x3_1.length : Int) : Int) := of_decide_eq_true (by first | (with_reducible assumption) | assumption)
   obtain ⟨go9, co9, eo9, gb9, gl9, cl9, HG9⟩ := Kd.R_form HO_3.out (by omega)
   (first | cases eo9 | (injection eo9 with ea_ en_ ec_; (first | subst ea_ | (injection ea_ with ea_; subst ea_)); subst ec_; clear en_))
   have GB9 := mk_ gb9
   have GG9 := mk_ HG9
   clear gb9 gl9 HG9
   obtain ⟨hx9_0, hf9_0⟩ := Kd.R_celln 0 HO_3.out (x4_1 : Int) p9 q9
   replace p9 := eq_true p9
   replace q9 := eq_true q9
   have HP10 := Kd.R_putg HO_3.out (x4_1 : Int) (rd l0 x4_1)
   go_wp2_with (first | ((with_reducible refine gate_store (t := 5) (p := 20) rfl ?_); refine store_event (t := 5) (p := 20) (v := ?_) (w1 := (wr.setCell ⟨go9, (x4_1 : Int).toNat, none⟩ (.int .u8 (rd l0 x4_1)))) ?hg ?ho ?hn ?hr ?_; (case ho => rfl); (case hg => rfl); (case hn => rfl); (case hr => first | (go_simp; done) | (go_simp; rfl)); intro w11 hw; have hg : wr.grownBy w11 (some go9) := (by rw [hw]; exact HP10.2); have hp_ : Kd.R (Kd.int .u8) 5 w11 w.heap.size (fun _ => True) (.slice (some ⟨go9, 0, none⟩) x3_1.length co9) y113 := (by rw [hw, Ny113.out]; exact HP10.1); clear HP10; replace HO_3 := mk_ (hp_); replace HB := mk_ ((by rw [hw]; exact below_set (HB.out) GB9.out : Below w.heap.size w w11)); clear hg hw hp_))
   go_roundg k1
   case measure => have := HK1.out; omega
   case rel => exact ⟨(y113), (wrap64 (x4_1 + 1)), (by first | rfl | (simp; done) | (simp [*]; done)), H', ⟨by have := HK1.out; omega⟩, ⟨Kd.ur_ HO_3.out⟩, ⟨ub_ HB.out⟩⟩

/-! ### laws_toMail: function 98 -/
def laws_toMail.f (k : Nat) (a0_0 : Int) (a0_1 : Int) (a0_2 : Int) (l0_3 : List Int) : Option (Int × Int × Int × List Int) := (laws_toByteS.f k l0_3).bind fun t117 => (some (a0_0, a0_1, a0_2, t117))
theorem laws_toMail.mono : ∀ a0 a1 a2 a3 k, LeO (laws_toMail.f k a0 a1 a2 a3) (laws_toMail.f (k + 1) a0 a1 a2 a3) := by
 intro a0 a1 a2 a3 k
 unfold laws_toMail.f
 repeat' first
   | (with_reducible exact laws_toByteS.mono _ _)
   | (with_reducible exact LeO.refl _)
   | (with_reducible exact LeO.none _)
   | (with_reducible refine LeO.ite ?_ ?_)
   | (with_reducible refine LeO.bind ?_ (fun _ => ?_))
   | exact laws_toByteS.mono _ _
   | exact LeO.none _
   | refine LeO.ite ?_ ?_
   | refine LeO.bind ?_ (fun _ => ?_)
set_option maxHeartbeats 8000000 in
set_option maxRecDepth 100000 in
theorem laws_toMail.calls (k : Nat) (a0_0 : Int) (a0_1 : Int) (a0_2 : Int) (A0_3 : Option Addr) (c0_3 : Nat) (l0_3 : List Int) (r1 : Int) (r2 : Int) (r3 : Int) (r4 : List Int) (w : World) (hr0_3 : Kd.C (Kd.int .u8) w A0_3 l0_3.length l0_3) (hc0_3 : l0_3.length ≤ c0_3) (h : laws_toMail.f k a0_0 a0_1 a0_2 l0_3 = some (r1, r2, r3, r4)) :
  Calls Try.prog 98 #[.agg #[.int .i64 a0_0, .int .i64 a0_1, .int .i64 a0_2, .slice A0_3 l0_3.length c0_3]] w fun e w' => ∃ v3_ : Value, e = .returned (.agg #[.int .i64 r1, .int .i64 r2, .int .i64 r3, v3_]) ∧ Kd.R (Kd.int .u8) 5 w' w.heap.size (fun _ => True) v3_ r4 ∧ Below w.heap.size w w' := by
 have hu105 := Try.underlying105
 have hu40 := Try.underlying40
 have HR0_3 := mk_ hr0_3
 have HC0_3 := mk_ hc0_3
 clear hr0_3 hc0_3
 have HB := mk_ (Below.refl w.heap.size w)
 have H := h
 unfold laws_toMail.f at H
 clear h
 replace H := Option.bind_eq_some_iff.mp H
 obtain ⟨t117, A20, H⟩ := H
 replace H : (some (a0_0, a0_1, a0_2, t117)) = some (r1, r2, r3, r4) := H
 have A2 := mk_ A20
 clear A20
 simp only [Option.some.injEq, Prod.mk.injEq] at H
 obtain ⟨rfl, rfl, rfl, rfl⟩ := H
 go_enter Try.func98, Try.ntmps98
 go_wp2_with (first | ((with_reducible refine gate_dst (N := 1) rfl ?_); refine box_event ?hg (N := 1) ?hd (cs := #[.int .i64 a0_0, .int .i64 a0_1, .int .i64 a0_2, .slice A0_3 l0_3.length c0_3]) (t := 105) ?hr ?_; (case hd => rfl); (case hg => rfl); (case hr => first | (go_simp; done) | (go_simp; rfl)); intro gb114 hg w3 hbox hb; have n0_ := mk_ (below_step (ub_ HB.out) hb); have BK114 := mk_ (hbox); have GW114 := mk_ ((by rw [hg]; exact (below_size (ub_ HB.out)) : w.heap.size ≤ gb114)); have GE114 := ge_ ((by rw [hg]; exact (below_size (ub_ HB.out)) : w.heap.size ≤ gb114)); replace HB := n0_; clear n0_; clear hb hbox hg) | ((with_reducible refine gate_dst (N := 2) rfl ?_); refine box_event ?hg (N := 2) ?hd (cs := #[.int .i64 0, .int .i64 0, .int .i64 0, .slice none 0 0]) (t := 40) ?hr ?_; (case hd => rfl); (case hg => rfl); (case hr => first | (go_simp; done) | (go_simp; rfl)); intro gb115 hg w4 hbox hb; have n0_ := mk_ (blk_below (u_ BK114.out) hb); have n1_ := mk_ (below_step (us_ HB.out) hb); have BK115 := mk_ (hbox); have GW115 := mk_ ((by rw [hg]; exact (below_size (us_ HB.out)) : w.heap.size ≤ gb115)); have GE115 := ge_ ((by rw [hg]; exact (below_size (us_ HB.out)) : w.heap.size ≤ gb115)); have NB114_115 := nq_ ((by rw [hg]; exact Nat.ne_of_lt (blk_lt (u_ BK114.out)) : gb114 ≠ gb115)); have NB115_114 := nq_ ((by rw [hg]; exact Nat.ne_of_gt (blk_lt (u_ BK114.out)) : gb115 ≠ gb114)); replace BK114 := n0_; replace HB := n1_; clear n0_ n1_; clear hb hbox hg) | ((with_reducible refine gate_dst (N := 3) rfl ?_); refine box_event ?hg (N := 3) ?hd (cs := #[.int .i64 0, .int .i64 0, .int .i64 0, .slice none 0 0]) (t := 40) ?hr ?_; (case hd => rfl); (case hg => rfl); (case hr => first | (go_simp; done) | (go_simp; rfl)); intro gb116 hg w5 hbox hb; have n0_ := mk_ (blk_below (u_ BK114.out) hb); have n1_ := mk_ (blk_below (u_ BK115.out) hb); have n2_ := mk_ (below_step (us_ HB.out) hb); have BK116 := mk_ (hbox); have GW116 := mk_ ((by rw [hg]; exact (below_size (us_ HB.out)) : w.heap.size ≤ gb116)); have GE116 := ge_ ((by rw [hg]; exact (below_size (us_ HB.out)) : w.heap.size ≤ gb116)); have NB114_116 := nq_ ((by rw [hg]; exact Nat.ne_of_lt (blk_lt (u_ BK114.out)) : gb114 ≠ gb116)); have NB116_114 := nq_ ((by rw [hg]; exact Nat.ne_of_gt (blk_lt (u_ BK114.out)) : gb116 ≠ gb114)); have NB115_116 := nq_ ((by rw [hg]; exact Nat.ne_of_lt (blk_lt (u_ BK115.out)) : gb115 ≠ gb116)); have NB116_115 := nq_ ((by rw [hg]; exact Nat.ne_of_gt (blk_lt (u_ BK115.out)) : gb116 ≠ gb115)); replace BK114 := n0_; replace BK115 := n1_; replace HB := n2_; clear n0_ n1_ n2_; clear hb hbox hg; have hnb6 := NB114_115.out; have hnc6 := NB115_114.out; have hnb7 := NB114_116.out; have hnc7 := NB116_114.out; obtain ⟨hcz8_0, hcz8_1, hcz8_2, hcz8_3, hfz8_0, hfz8_1, hfz8_2, hfz8_3⟩ := cells4_ BK114.out; have hnb9 := NB116_115.out; have hnc9 := NB115_116.out; obtain ⟨hcz10_0, hcz10_1, _, _, hfz10_0, hfz10_1, _, _⟩ := cells4_ BK116.out) | ((with_reducible refine gate_callee (f := 66) rfl ?_); refine goesL_ (some 15) rfl rfl Try.func66 (by kernel_rfl) rfl #[.slice A0_3 l0_3.length c0_3] rfl (by (try simp only [lm_, lo_, ln_]); try rfl) ?_; (with_reducible refine (laws_toByteS.calls k _ _ l0_3 t117 _ ?side1 ?side2 A2.out).mono ?_); (case side1 => exact Kd.C_below HR0_3.out (us_ HB.out)); (case side2 => exact HC0_3.out); rintro e w11 ⟨v118, rfl, ho0, hb⟩; refine ⟨_, rfl, ?_⟩; have HO119 := mk_ (Kd.R_lower ho0 (below_size (us_ HB.out))); replace BK114 := mk_ (blk_below (g := gb114) (o := .cells #[.int .i64 a0_0, .int .i64 a0_1, .int .i64 a0_2, .slice A0_3 l0_3.length c0_3] 105 (0, 0)) (uf_ BK114.out) hb); replace BK115 := mk_ (blk_below (g := gb115) (o := .cells #[.int .i64 0, .int .i64 0, .int .i64 0, .slice none 0 0] 40 (0, 0)) (uf_ BK115.out) hb); replace BK116 := mk_ (blk_below (g := gb116) (o := .cells #[.int .i64 a0_0, .int .i64 a0_1, .int .i64 a0_2, .slice none 0 0] 40 (0, 0)) (by (with_reducible repeat (first | refine bn_ ?_ _ | refine bw_ ?_ | refine ba_ ?_ _)); refine blk_put (cs := #[.int .i64 a0_0, .int .i64 a0_1, .int .i64 0, .slice none 0 0]) ?_ 2 _ rfl; (with_reducible repeat (first | refine bn_ ?_ _ | refine bw_ ?_ | refine ba_ ?_ _)); refine blk_put (cs := #[.int .i64 a0_0, .int .i64 0, .int .i64 0, .slice none 0 0]) ?_ 1 _ rfl; (with_reducible repeat (first | refine bn_ ?_ _ | refine bw_ ?_ | refine ba_ ?_ _)); refine blk_put (cs := #[.int .i64 0, .int .i64 0, .int .i64 0, .slice none 0 0]) ?_ 0 _ rfl; (with_reducible repeat (first | refine bn_ ?_ _ | refine bw_ ?_ | refine ba_ ?_ _)); exact BK116.out) hb); replace HB := mk_ (below_step (us_ HB.out) hb); obtain ⟨Ao12, co12, eo12⟩ := Kd.R_slice HO119.out; subst eo12; obtain ⟨hcz13_0, hcz13_1, _, _, hfz13_0, hfz13_1, _, _⟩ := cells4_ BK116.out; obtain ⟨hcz14_0, hcz14_1, _, _, hfz14_0, hfz14_1, _, _⟩ := cells4_ BK115.out))
 refine bodyPost_ret (results_cell_row rfl _ _ gb115 40 #[.int .i64 a0_0, .int .i64 a0_1, .int .i64 a0_2, .slice Ao12 t117.length co12] (0, 0) _ rfl (by (with_reducible repeat (first | refine bn_ ?_ _ | refine bw_ ?_ | refine ba_ ?_ _)); refine blk_put (cs := #[.int .i64 a0_0, .int .i64 a0_1, .int .i64 a0_2, .slice none 0 0]) ?_ 3 _ rfl; (with_reducible repeat (first | refine bn_ ?_ _ | refine bw_ ?_ | refine ba_ ?_ _)); refine blk_put (cs := #[.int .i64 a0_0, .int .i64 a0_1, .int .i64 0, .slice none 0 0]) ?_ 2 _ rfl; (with_reducible repeat (first | refine bn_ ?_ _ | refine bw_ ?_ | refine ba_ ?_ _)); refine blk_put (cs := #[.int .i64 a0_0, .int .i64 0, .int .i64 0, .slice none 0 0]) ?_ 1 _ rfl; (with_reducible repeat (first | refine bn_ ?_ _ | refine bw_ ?_ | refine ba_ ?_ _)); refine blk_put (cs := #[.int .i64 0, .int .i64 0, .int .i64 0, .slice none 0 0]) ?_ 0 _ rfl; (with_reducible repeat (first | refine bn_ ?_ _ | refine bw_ ?_ | refine ba_ ?_ _)); refine blk_far ?_ NB115_116.out _; (with_reducible repeat (first | refine bn_ ?_ _ | refine bw_ ?_ | refine ba_ ?_ _)); exact BK115.out) Try.underlying40 rfl (by kernel_rfl)) rfl ?_
 exact ⟨_, by first | rfl | (simp [errW_none, errW_some] <;> rfl) | (simp [*, errW_none, errW_some] <;> rfl), by (with_reducible repeat (first | apply Kd.R_alloc | apply Kd.R_drewN | apply Kd.R_drew)); exact Kd.R_mono (Kd.R_far (p := ⟨gb115, 3, none⟩) (Kd.R_far (p := ⟨gb115, 2, none⟩) (Kd.R_far (p := ⟨gb115, 1, none⟩) (Kd.R_far (p := ⟨gb115, 0, none⟩) (Kd.R_far (p := ⟨gb116, 3, none⟩) (Kd.R_types (Kd.R_types HO119.out BK116.out (by decide)) BK115.out (by decide)) (fun _ hk => hk.1.2) (.slice Ao12 t117.length co12)) (fun _ hk => hk.2) (.int .i64 a0_0)) (fun _ hk => hk.2) (.int .i64 a0_1)) (fun _ hk => hk.2) (.int .i64 a0_2)) (fun _ hk => hk.2) (.slice Ao12 t117.length co12)) (fun _ hk => trivial), us_ HB.out⟩

/-! ### laws_toMailS: function 75 -/
def laws_toMailS.l0 : Nat → List (S105) → List (S40) → Int → Option ((List (S40)))
 | 0, _, _, _ => none
 | k + 1, x0, x3, x4 => if x4 < (x0.length : Int) then (if 0 ≤ x4 then ((laws_toMail.f k ((rd_T105 x0 x4).f0) ((rd_T105 x0 x4).f1) ((rd_T105 x0 x4).f2) ((rd_T105 x0 x4).f3)).bind fun bt124 => (if x4 < (x3.length : Int) then (laws_toMailS.l0 k x0 (x3.set (x4 : Int).toNat (⟨bt124.1, bt124.2.1, bt124.2.2.1, bt124.2.2.2⟩ : S40)) (wrap64 (x4 + 1))) else (none))) else (none)) else (some x3)
def laws_toMailS.f (k : Nat) (l0 : List (S105)) : Option ((List (S40))) := if 0 ≤ (l0.length : Int) then (if ((l0.length : Int) : Int).toNat ≤ 5864062014805 then (laws_toMailS.l0 k l0 (List.replicate ((l0.length : Int) : Int).toNat z40) 0) else (none)) else (none)
theorem laws_toMailS.mono_l : ∀ k, (∀ y0 y1 y2, LeO (laws_toMailS.l0 k y0 y1 y2) (laws_toMailS.l0 (k + 1) y0 y1 y2))
 | 0 => fun _ _ _ r h => by simp [laws_toMailS.l0] at h
 | k + 1 => by
  have ih0 := laws_toMailS.mono_l k
  ·intro y0 y1 y2
   unfold laws_toMailS.l0
   repeat' first
   | (with_reducible exact ih0 _ _ _)
   | (with_reducible exact laws_toMail.mono _ _ _ _ _)
   | (with_reducible exact LeO.refl _)
   | (with_reducible exact LeO.none _)
   | (with_reducible refine LeO.ite ?_ ?_)
   | (with_reducible refine LeO.bind ?_ (fun _ => ?_))
   | exact ih0 _ _ _
   | exact laws_toMail.mono _ _ _ _ _
   | exact LeO.none _
   | refine LeO.ite ?_ ?_
   | refine LeO.bind ?_ (fun _ => ?_)
theorem laws_toMailS.mono : ∀ a0 k, LeO (laws_toMailS.f k a0) (laws_toMailS.f (k + 1) a0) := by
 intro a0 k
 have ih0 := laws_toMailS.mono_l k
 unfold laws_toMailS.f
 repeat' first
   | (with_reducible exact ih0 _ _ _)
   | (with_reducible exact laws_toMail.mono _ _ _ _ _)
   | (with_reducible exact LeO.refl _)
   | (with_reducible exact LeO.none _)
   | (with_reducible refine LeO.ite ?_ ?_)
   | (with_reducible refine LeO.bind ?_ (fun _ => ?_))
   | exact ih0 _ _ _
   | exact laws_toMail.mono _ _ _ _ _
   | exact LeO.none _
   | refine LeO.ite ?_ ?_
   | refine LeO.bind ?_ (fun _ => ?_)
set_option maxHeartbeats 8000000 in
set_option maxRecDepth 100000 in
theorem laws_toMailS.calls (k : Nat) (A0 : Option Addr) (c0 : Nat) (l0 : List (S105)) (r : List (S40)) (w : World) (hr0 : Kd.C k105 w A0 l0.length l0) (hc0 : l0.length ≤ c0) (h : laws_toMailS.f k l0 = some r) :
  Calls Try.prog 75 #[.slice A0 l0.length c0] w fun e w' => ∃ v0_ : Value, e = .returned (v0_) ∧ Kd.S k40 40 w' w.heap.size (fun _ => True) v0_ r ∧ Below w.heap.size w w' := by
 have hu105 := Try.underlying105
 have hu40 := Try.underlying40
 have HR0 := mk_ hr0
 have HC0 := mk_ hc0
 clear hr0 hc0
 have HB := mk_ (Below.refl w.heap.size w)
 have H := h
 unfold laws_toMailS.f at H
 clear h
 by_cases c2 : 0 ≤ (l0.length : Int)
 rotate_left
 ·rw [if_neg c2] at H
  exact absurd H (by simp)
 rw [if_pos c2] at H
 have c2b0 := eq_true c2
 have c2b1 : decide (0 ≤ (l0.length : Int)) = true := decide_eq_true c2
 clear c2
 by_cases c3 : ((l0.length : Int) : Int).toNat ≤ 5864062014805
 rotate_left
 ·rw [if_neg c3] at H
  exact absurd H (by simp)
 rw [if_pos c3] at H
 have c3b0 := eq_true c3
 have c3b1 : decide (((l0.length : Int) : Int).toNat ≤ 5864062014805) = true := decide_eq_true c3
 clear c3
 obtain ⟨y120, hy120⟩ : ∃ y_ : List (S40), y_ = (List.replicate ((l0.length : Int) : Int).toNat z40) := ⟨_, rfl⟩
 replace H : (laws_toMailS.l0 k l0 y120 0) = some r := by first | (rw [hy120]; with_reducible exact H) | (have H2_ := (Option.bind_some _ _).symm.trans H; rw [hy120]; with_reducible exact H2_) | (have H2_ := (Option.bind_some _ _).symm.trans H; with_reducible exact H2_) | with_reducible exact H | (rw [hy120]; exact H) | exact H
 have Ny120 := mk_ hy120
 clear hy120
 have H' := mk_ H
 clear H
 go_enter Try.func75, Try.ntmps75
 go_wp2_with (first | ((with_reducible refine gate_dst (N := 7) rfl ?_); refine Kd.S_make k40 _ 40 rfl (N := 7) rfl 45 _ _ rfl (l0.length : Int) rfl rfl Try.underlying45 (.agg #[(.int .i64 0), (.int .i64 0), (.int .i64 0), (.slice none 0 0)]) 48 info40 rfl (by decide) (by omega) z40 (ok := fun _ => True) (okp := fun _ => True) (k40_mkM _ _ _ z40 (Kd.R_nil _ _ _ _ _)) (fun _ hk => hk) trivial (of_decide_eq_true (by first | (with_reducible assumption) | assumption)) (Nat.le_trans (Nat.mul_le_mul_right _ (of_decide_eq_true (by first | (with_reducible assumption) | assumption) : (l0.length : Int).toNat ≤ 5864062014805)) (by omega)) (Below.refl _ _) (Nat.le_refl _) ?_; intro v121 w4 ho5 hb hg_ hnew_; clear hg_ hnew_; (first | rw [← Ny120.out] at ho5 | (simp only [Int.reduceToNat] at ho5; rw [← Ny120.out] at ho5)); have HO122 := mk_ (Kd.S_lower ho5 (below_size (ub_ HB.out))); replace HB := mk_ (below_step (ub_ HB.out) hb); clear hb ho5))
 go_loopg [4] k (fun kq v4 w' => ∃ (x3_1 : List (S40)) (x4_1 : Int), v4 = .int .i64 x4_1 ∧ Aside0 (laws_toMailS.l0 kq l0 x3_1 x4_1 = some r) ∧ Aside0 (kq ≤ k) ∧ Aside0 (Kd.S k40 40 w' w.heap.size (fun _ => True) v121 x3_1) ∧ Aside0 (Below w.heap.size w w'))
 case atStart => exact ⟨(y120), (0), (by first | rfl | (simp; done) | (simp [*]; done)), H', ⟨Nat.le_refl _⟩, ⟨by (with_reducible repeat (first | apply Kd.S_alloc | apply Kd.S_drewN | apply Kd.S_drew)); exact HO122.out⟩, ⟨ub_ HB.out⟩⟩
 case round =>
  clear H'
  try clear c2
  try clear c2b0
  try clear c2b1
  try clear p2
  try clear c3
  try clear c3b0
  try clear c3b1
  obtain ⟨x3_1, x4_1, rfl, HA, HK1, HO_3, HB⟩ := hrel
  cases gk with
  | zero => exact absurd HA.out (by simp [laws_toMailS.l0])
  | succ k1 =>
   have H := HA.out
   clear HA
   simp only [laws_toMailS.l0] at H
   by_cases c6 : x4_1 < (l0.length : Int)
   rotate_left
   ·rw [if_neg c6] at H
    have c6b0 : decide (x4_1 < (l0.length : Int)) = false := decide_eq_false c6
    clear c6
    obtain rfl := Option.some.inj H
    go_wp2
    go_ret
    exact ⟨_, by first | rfl | (simp [errW_none, errW_some] <;> rfl) | (simp [*, errW_none, errW_some] <;> rfl), by (with_reducible repeat (first | apply Kd.S_alloc | apply Kd.S_drewN | apply Kd.S_drew)); exact HO_3.out, by repeat (first | (with_reducible first | exact HB.out | apply na_ | apply nn_ | apply nw_) | exact HB.out)⟩
   rw [if_pos c6] at H
   have c6b0 : decide (x4_1 < (l0.length : Int)) = true := decide_eq_true c6
   clear c6
   by_cases c7 : 0 ≤ x4_1
   rotate_left
   ·rw [if_neg c7] at H
    exact absurd H (by simp)
   rw [if_pos c7] at H
   have c7b0 : decide (0 ≤ x4_1) = true := decide_eq_true c7
   clear c7
   replace H := Option.bind_eq_some_iff.mp H
   obtain ⟨⟨t124, t125, t126, t127⟩, A80, H⟩ := H
   (try dsimp only at H)
   have A8 := mk_ A80
   clear A80
   by_cases c9 : x4_1 < (x3_1.length : Int)
   rotate_left
   ·rw [if_neg c9] at H
    exact absurd H (by simp)
   rw [if_pos c9] at H
   have c9b0 : decide (x4_1 < (x3_1.length : Int)) = true := decide_eq_true c9
   clear c9
   obtain ⟨y130, hy130⟩ : ∃ y_ : List (S40), y_ = (x3_1.set (x4_1 : Int).toNat (⟨t124, t125, t126, t127⟩ : S40)) := ⟨_, rfl⟩
   replace H : (laws_toMailS.l0 k1 l0 y130 (wrap64 (x4_1 + 1))) = some r := by first | (rw [hy130]; with_reducible exact H) | (have H2_ := (Option.bind_some _ _).symm.trans H; rw [hy130]; with_reducible exact H2_) | (have H2_ := (Option.bind_some _ _).symm.trans H; with_reducible exact H2_) | with_reducible exact H | (rw [hy130]; exact H) | exact H
   have Ny130 := mk_ hy130
   clear hy130
   have H' := mk_ H
   clear H
   have p123 : 0 ≤ (x4_1 : Int) := of_decide_eq_true (by first | (with_reducible assumption) | assumption)
   have q123 : x4_1 < (l0.length : Int) := of_decide_eq_true (by first | (with_reducible assumption) | assumption)
   obtain ⟨ad123, A123_3, c123_3, e123, hx123_0, hx123_1, hx123_2, hx123_3, hl123_3, hi123_3⟩ := at_T105 HR0.out x4_1 p123 q123
   cases e123
   replace hx123_0 := (HB.out.cell (lc_ w _ hx123_0)).trans hx123_0
   replace hx123_1 := (HB.out.cell (lc_ w _ hx123_1)).trans hx123_1
   replace hx123_2 := (HB.out.cell (lc_ w _ hx123_2)).trans hx123_2
   replace hx123_3 := (HB.out.cell (lc_ w _ hx123_3)).trans hx123_3
   have HR123_3 := mk_ hi123_3
   have HC123_3 := mk_ hl123_3
   clear hi123_3 hl123_3
   replace p123 := eq_true p123
   replace q123 := eq_true q123
   go_wp2_with (first | ((with_reducible refine gate_callee (f := 98) rfl ?_); refine goesL_ (some 20) rfl rfl Try.func98 (by kernel_rfl) rfl #[.agg #[.int .i64 ((rd_T105 l0 x4_1).f0), .int .i64 ((rd_T105 l0 x4_1).f1), .int .i64 ((rd_T105 l0 x4_1).f2), .slice A123_3 ((rd_T105 l0 x4_1).f3).length c123_3]] rfl (by (try simp only [lm_, lo_, ln_]); try rfl) ?_; (with_reducible refine (laws_toMail.calls k1 ((rd_T105 l0 x4_1).f0) ((rd_T105 l0 x4_1).f1) ((rd_T105 l0 x4_1).f2) _ _ ((rd_T105 l0 x4_1).f3) t124 t125 t126 t127 _ ?side1 ?side2 A8.out).mono ?_); (case side1 => repeat (first | exact (Kd.C_below HR123_3.out HB.out) | (with_reducible refine Kd.C_alloc ?_ _) | (with_reducible refine Kd.C_drewN ?_ _) | (with_reducible refine Kd.C_drew ?_))); (case side2 => exact HC123_3.out); rintro e w11 ⟨v128, rfl, ho0, hb⟩; refine ⟨_, rfl, ?_⟩; replace HO_3 := mk_ (Kd.S_elder' (by (with_reducible repeat (first | apply Kd.S_alloc | apply Kd.S_drewN | apply Kd.S_drew)); exact HO_3.out) (Kd.R_base ho0) hb); have HO129 := mk_ (Kd.R_lower ho0 (below_size (ub_ HB.out))); replace HB := mk_ (below_step (ub_ HB.out) hb); have p10 : 0 ≤ (x4_1 : Int) := of_decide_eq_true (by first | (with_reducible assumption) | assumption); have q10 : (x4_1 : Int) < ((x3_1.length : Int) : Int) := of_decide_eq_true (by first | (with_reducible assumption) | assumption); obtain ⟨go10, co10, eo10, gb10, gl10, cl10, HG10⟩ := Kd.S_form HO_3.out (by omega); (first | cases eo10 | (injection eo10 with ea_ en_ ec_; (first | subst ea_ | (injection ea_ with ea_; subst ea_)); subst ec_; clear en_)); have GB10 := mk_ gb10; have GG10 := mk_ HG10; clear gb10 gl10 HG10; obtain ⟨_, ce10, hcl10, hM10, hcc10, hfr10, _, _⟩ := Kd.S_elem HO_3.out z40 (x4_1 : Int) p10 q10; obtain ⟨ve10_3, rfl, ge10_3⟩ := k40_openM hM10; have hx10_0 : w11.cell? ⟨go10, (x4_1 : Int).toNat * 4, none⟩ = some (.int .i64 ((rd_T40 x3_1 x4_1).f0)) := hcc10 0 _ rfl; have hx10_1 : w11.cell? ⟨go10, (x4_1 : Int).toNat * 4 + 1, none⟩ = some (.int .i64 ((rd_T40 x3_1 x4_1).f1)) := hcc10 1 _ rfl; have hx10_2 : w11.cell? ⟨go10, (x4_1 : Int).toNat * 4 + 2, none⟩ = some (.int .i64 ((rd_T40 x3_1 x4_1).f2)) := hcc10 2 _ rfl; have hx10_3 : w11.cell? ⟨go10, (x4_1 : Int).toNat * 4 + 3, none⟩ = some (ve10_3) := hcc10 3 _ rfl; have hf10_0 : w11.frozen? ⟨go10, (x4_1 : Int).toNat * 4, none⟩ = false := hfr10 0; have hf10_1 : w11.frozen? ⟨go10, (x4_1 : Int).toNat * 4 + 1, none⟩ = false := hfr10 1; have hf10_2 : w11.frozen? ⟨go10, (x4_1 : Int).toNat * 4 + 2, none⟩ = false := hfr10 2; have hf10_3 : w11.frozen? ⟨go10, (x4_1 : Int).toNat * 4 + 3, none⟩ = false := hfr10 3; clear hcl10 hcc10 hfr10 hM10; replace p10 := eq_true p10; replace q10 := eq_true q10; have n_ := mk_ (Kd.S_mono (ok' := (fun k_ => some k_ ≠ (v128 : Value).ownBlock)) HO_3.out (fun k_ hk => hk.2)); clear HO_3; have HO_3 := n_; clear n_; have HX12 := mk_ (show Kd.S k40 40 w11 w.heap.size (fun k_ => ((fun _ => True)) k_ ∧ ¬ ((fun k_ => some k_ = (v128 : Value).ownBlock)) k_) (.slice (some ⟨go10, 0, none⟩) x3_1.length co10) x3_1 from (by (with_reducible repeat (first | apply Kd.S_alloc | apply Kd.S_drewN | apply Kd.S_drew)); exact Kd.S_mono HO_3.out (fun k_ hk => ⟨trivial, fun e_ => hk e_⟩))); obtain ⟨oki12, ce12, hcl12, hM12, hcc12, hfr12, hoki12, hH12⟩ := Kd.S_elem HX12.out z40 (x4_1 : Int) (of_decide_eq_true (by first | (with_reducible assumption) | assumption)) (by have h_ : (x4_1 : Int) < ((x3_1.length : Int) : Int) := of_decide_eq_true (by first | (with_reducible assumption) | assumption); first | exact h_ | (have e_ := (Kd.S_reads' HO_3.out).1; omega) | simpa using h_); obtain ⟨ve12_3, rfl, ge12_3⟩ := k40_openM hM12; have HP12 := Kd.S_seg hH12 (of_decide_eq_true (by first | (with_reducible assumption) | assumption)) (by have h_ : (x4_1 : Int) < ((x3_1.length : Int) : Int) := of_decide_eq_true (by first | (with_reducible assumption) | assumption); first | exact h_ | (have e_ := (Kd.S_reads' HO_3.out).1; omega) | simpa using h_) (seg := [.int .i64 t124, .int .i64 t125, .int .i64 t126, v128]) (j := 0) (show 4 ≤ 4 from by decide) (x' := (⟨t124, t125, t126, t127⟩ : S40)) (k40_mkM _ _ _ (⟨t124, t125, t126, t127⟩ : S40) (Kd.R_mono (Kd.R_tight rfl (Kd.R_mono (ok' := fun k_ => ((fun _ => True)) k_ ∧ k_ ≠ go10) (Kd.R_apart' (HO129.out) (Kd.S_typed HO_3.out) (by decide)) (fun k_ hk => ⟨trivial, fun e_ => (hk.2) (by rw [e_]; rfl)⟩))) (fun _ h_ => Or.inr (h_)))) (fun _ hk => hk) (fun k_ hk_ => ((Kd.R_mono (ok' := fun k_ => ((fun _ => True)) k_ ∧ k_ ≠ go10) (Kd.R_apart' (HO129.out) (Kd.S_typed HO_3.out) (by decide)) (fun k_ hk => ⟨trivial, fun e_ => (hk.2) (by rw [e_]; rfl)⟩))).1 k_ hk_.symm); have hx12_0 := hcc12 0 _ rfl; (try simp only [show (k40).sz = 4 from rfl, Nat.mul_one, Nat.add_zero] at hx12_0); have hf12_0 := hfr12 0; (try simp only [show (k40).sz = 4 from rfl, Nat.mul_one, Nat.add_zero] at hf12_0); have hx12_1 := hcc12 1 _ rfl; (try simp only [show (k40).sz = 4 from rfl, Nat.mul_one, Nat.add_zero] at hx12_1); have hf12_1 := hfr12 1; (try simp only [show (k40).sz = 4 from rfl, Nat.mul_one, Nat.add_zero] at hf12_1); have hx12_2 := hcc12 2 _ rfl; (try simp only [show (k40).sz = 4 from rfl, Nat.mul_one, Nat.add_zero] at hx12_2); have hf12_2 := hfr12 2; (try simp only [show (k40).sz = 4 from rfl, Nat.mul_one, Nat.add_zero] at hf12_2); have hx12_3 := hcc12 3 _ rfl; (try simp only [show (k40).sz = 4 from rfl, Nat.mul_one, Nat.add_zero] at hx12_3); have hf12_3 := hfr12 3; (try simp only [show (k40).sz = 4 from rfl, Nat.mul_one, Nat.add_zero] at hf12_3); clear hcl12 hcc12 hfr12 hM12 hoki12 hH12) | ((with_reducible refine gate_store (t := 40) (p := 21) rfl ?_); refine store_event (t := 40) (p := 21) (v := ?_) (w1 := ((((w11.setCell ⟨go10, (x4_1 : Int).toNat * 4, none⟩ (.int .i64 t124)).setCell ⟨go10, (x4_1 : Int).toNat * 4 + 1, none⟩ (.int .i64 t125)).setCell ⟨go10, (x4_1 : Int).toNat * 4 + 2, none⟩ (.int .i64 t126)).setCell ⟨go10, (x4_1 : Int).toNat * 4 + 3, none⟩ (v128))) ?hg ?ho ?hn ?hr ?_; (case ho => rfl); (case hg => rfl); (case hn => rfl); (case hr => first | (go_simp; done) | (go_simp; rfl) | ((try (obtain ⟨Ao0_, co0_, eo0_⟩ := Kd.R_slice (v := v128) (Aside0.out (by assumption)); subst eo0_)); first | (go_simp; done) | (go_simp; rfl))); intro w13 hw; have hg : w11.grownBy w13 (some go10) := (by rw [hw]; exact HP12.2); have hp_ : Kd.S k40 40 w13 w.heap.size (fun _ => True) (.slice (some ⟨go10, 0, none⟩) x3_1.length co10) y130 := (by rw [hw, Ny130.out]; exact HP12.1); clear HP12; replace HO_3 := mk_ (hp_); replace HB := mk_ ((by rw [hw]; exact below_set (below_set (below_set (below_set (HB.out) GB10.out) GB10.out) GB10.out) GB10.out : Below w.heap.size w w13)); clear HO129; clear hg hw hp_))
   go_roundg k1
   case measure => have := HK1.out; omega
   case rel => exact ⟨(y130), (wrap64 (x4_1 + 1)), (by first | rfl | (simp; done) | (simp [*]; done)), H', ⟨by have := HK1.out; omega⟩, ⟨by (with_reducible repeat (first | apply Kd.S_alloc | apply Kd.S_drewN | apply Kd.S_drew)); exact HO_3.out⟩, ⟨ub_ HB.out⟩⟩

/-! ### laws_toPort: function 42 -/
def laws_toPort.f (k : Nat) (a0_0 : Int) (l0_1 : List (S105)) : Option (Int × (List (S40))) := (laws_toMailS.f k l0_1).bind fun t134 => (some (a0_0, t134))
theorem laws_toPort.mono : ∀ a0 a1 k, LeO (laws_toPort.f k a0 a1) (laws_toPort.f (k + 1) a0 a1) := by
 intro a0 a1 k
 unfold laws_toPort.f
 repeat' first
   | (with_reducible exact laws_toMailS.mono _ _)
   | (with_reducible exact LeO.refl _)
   | (with_reducible exact LeO.none _)
   | (with_reducible refine LeO.ite ?_ ?_)
   | (with_reducible refine LeO.bind ?_ (fun _ => ?_))
   | exact laws_toMailS.mono _ _
   | exact LeO.none _
   | refine LeO.ite ?_ ?_
   | refine LeO.bind ?_ (fun _ => ?_)
set_option maxHeartbeats 8000000 in
set_option maxRecDepth 100000 in
theorem laws_toPort.calls (k : Nat) (a0_0 : Int) (A0_1 : Option Addr) (c0_1 : Nat) (l0_1 : List (S105)) (r1 : Int) (r2 : List (S40)) (w : World) (hr0_1 : Kd.C k105 w A0_1 l0_1.length l0_1) (hc0_1 : l0_1.length ≤ c0_1) (h : laws_toPort.f k a0_0 l0_1 = some (r1, r2)) :
  Calls Try.prog 42 #[.agg #[.int .i64 a0_0, .slice A0_1 l0_1.length c0_1]] w fun e w' => ∃ v1_ : Value, e = .returned (.agg #[.int .i64 r1, v1_]) ∧ Kd.S k40 40 w' w.heap.size (fun _ => True) v1_ r2 ∧ Below w.heap.size w w' := by
 have hu64 := Try.underlying64
 have hu47 := Try.underlying47
 have HR0_1 := mk_ hr0_1
 have HC0_1 := mk_ hc0_1
 clear hr0_1 hc0_1
 have HB := mk_ (Below.refl w.heap.size w)
 have H : ((laws_toMailS.f k l0_1).bind fun t134 => (some (a0_0, t134))) = some (r1, r2) := h
 clear h
 replace H := Option.bind_eq_some_iff.mp H
 obtain ⟨t134, A20, H⟩ := H
 replace H : (some (a0_0, t134)) = some (r1, r2) := H
 have A2 := mk_ A20
 clear A20
 simp only [Option.some.injEq, Prod.mk.injEq] at H
 obtain ⟨rfl, rfl⟩ := H
 go_enter Try.func42, Try.ntmps42
 go_wp2_with (first | ((with_reducible refine gate_dst (N := 1) rfl ?_); refine box_event ?hg (N := 1) ?hd (cs := #[.int .i64 a0_0, .slice A0_1 l0_1.length c0_1]) (t := 64) ?hr ?_; (case hd => rfl); (case hg => rfl); (case hr => first | (go_simp; done) | (go_simp; rfl)); intro gb131 hg w3 hbox hb; have n0_ := mk_ (below_step (ub_ HB.out) hb); have BK131 := mk_ (hbox); have GW131 := mk_ ((by rw [hg]; exact (below_size (ub_ HB.out)) : w.heap.size ≤ gb131)); have GE131 := ge_ ((by rw [hg]; exact (below_size (ub_ HB.out)) : w.heap.size ≤ gb131)); replace HB := n0_; clear n0_; clear hb hbox hg) | ((with_reducible refine gate_dst (N := 2) rfl ?_); refine box_event ?hg (N := 2) ?hd (cs := #[.int .i64 0, .slice none 0 0]) (t := 47) ?hr ?_; (case hd => rfl); (case hg => rfl); (case hr => first | (go_simp; done) | (go_simp; rfl)); intro gb132 hg w4 hbox hb; have n0_ := mk_ (blk_below (u_ BK131.out) hb); have n1_ := mk_ (below_step (us_ HB.out) hb); have BK132 := mk_ (hbox); have GW132 := mk_ ((by rw [hg]; exact (below_size (us_ HB.out)) : w.heap.size ≤ gb132)); have GE132 := ge_ ((by rw [hg]; exact (below_size (us_ HB.out)) : w.heap.size ≤ gb132)); have NB131_132 := nq_ ((by rw [hg]; exact Nat.ne_of_lt (blk_lt (u_ BK131.out)) : gb131 ≠ gb132)); have NB132_131 := nq_ ((by rw [hg]; exact Nat.ne_of_gt (blk_lt (u_ BK131.out)) : gb132 ≠ gb131)); replace BK131 := n0_; replace HB := n1_; clear n0_ n1_; clear hb hbox hg) | ((with_reducible refine gate_dst (N := 3) rfl ?_); refine box_event ?hg (N := 3) ?hd (cs := #[.int .i64 0, .slice none 0 0]) (t := 47) ?hr ?_; (case hd => rfl); (case hg => rfl); (case hr => first | (go_simp; done) | (go_simp; rfl)); intro gb133 hg w5 hbox hb; have n0_ := mk_ (blk_below (u_ BK131.out) hb); have n1_ := mk_ (blk_below (u_ BK132.out) hb); have n2_ := mk_ (below_step (us_ HB.out) hb); have BK133 := mk_ (hbox); have GW133 := mk_ ((by rw [hg]; exact (below_size (us_ HB.out)) : w.heap.size ≤ gb133)); have GE133 := ge_ ((by rw [hg]; exact (below_size (us_ HB.out)) : w.heap.size ≤ gb133)); have NB131_133 := nq_ ((by rw [hg]; exact Nat.ne_of_lt (blk_lt (u_ BK131.out)) : gb131 ≠ gb133)); have NB133_131 := nq_ ((by rw [hg]; exact Nat.ne_of_gt (blk_lt (u_ BK131.out)) : gb133 ≠ gb131)); have NB132_133 := nq_ ((by rw [hg]; exact Nat.ne_of_lt (blk_lt (u_ BK132.out)) : gb132 ≠ gb133)); have NB133_132 := nq_ ((by rw [hg]; exact Nat.ne_of_gt (blk_lt (u_ BK132.out)) : gb133 ≠ gb132)); replace BK131 := n0_; replace BK132 := n1_; replace HB := n2_; clear n0_ n1_ n2_; clear hb hbox hg; have hnb6 := NB131_132.out; have hnc6 := NB132_131.out; have hnb7 := NB131_133.out; have hnc7 := NB133_131.out; obtain ⟨hcz8_0, hcz8_1, hfz8_0, hfz8_1⟩ := cells2_ BK131.out; have hnb9 := NB133_132.out; have hnc9 := NB132_133.out; obtain ⟨hcz10_0, hcz10_1, hfz10_0, hfz10_1⟩ := cells2_ BK133.out) | ((with_reducible refine gate_callee (f := 75) rfl ?_); refine goesL_ (some 9) rfl rfl Try.func75 (by kernel_rfl) rfl #[.slice A0_1 l0_1.length c0_1] rfl (by (try simp only [lm_, lo_, ln_]); try rfl) ?_; (with_reducible refine (laws_toMailS.calls k _ _ l0_1 t134 _ ?side1 ?side2 A2.out).mono ?_); (case side1 => exact Kd.C_below HR0_1.out (us_ HB.out)); (case side2 => exact HC0_1.out); rintro e w11 ⟨v135, rfl, ho0, hb⟩; refine ⟨_, rfl, ?_⟩; have HO136 := mk_ (Kd.S_lower ho0 (below_size (us_ HB.out))); replace BK131 := mk_ (blk_below (g := gb131) (o := .cells #[.int .i64 a0_0, .slice A0_1 l0_1.length c0_1] 64 (0, 0)) (uf_ BK131.out) hb); replace BK132 := mk_ (blk_below (g := gb132) (o := .cells #[.int .i64 0, .slice none 0 0] 47 (0, 0)) (uf_ BK132.out) hb); replace BK133 := mk_ (blk_below (g := gb133) (o := .cells #[.int .i64 a0_0, .slice none 0 0] 47 (0, 0)) (by (with_reducible repeat (first | refine bn_ ?_ _ | refine bw_ ?_ | refine ba_ ?_ _)); refine blk_put (cs := #[.int .i64 0, .slice none 0 0]) ?_ 0 _ rfl; (with_reducible repeat (first | refine bn_ ?_ _ | refine bw_ ?_ | refine ba_ ?_ _)); exact BK133.out) hb); replace HB := mk_ (below_step (us_ HB.out) hb); obtain ⟨Ao12, co12, eo12⟩ := Kd.S_slice HO136.out; subst eo12; obtain ⟨hcz13_0, hcz13_1, hfz13_0, hfz13_1⟩ := cells2_ BK133.out; obtain ⟨hcz14_0, hcz14_1, hfz14_0, hfz14_1⟩ := cells2_ BK132.out))
 refine bodyPost_ret (results_cell_row rfl _ _ gb132 47 #[.int .i64 a0_0, .slice Ao12 t134.length co12] (0, 0) _ rfl (by (with_reducible repeat (first | refine bn_ ?_ _ | refine bw_ ?_ | refine ba_ ?_ _)); refine blk_put (cs := #[.int .i64 a0_0, .slice none 0 0]) ?_ 1 _ rfl; (with_reducible repeat (first | refine bn_ ?_ _ | refine bw_ ?_ | refine ba_ ?_ _)); refine blk_put (cs := #[.int .i64 0, .slice none 0 0]) ?_ 0 _ rfl; (with_reducible repeat (first | refine bn_ ?_ _ | refine bw_ ?_ | refine ba_ ?_ _)); refine blk_far ?_ NB132_133.out _; (with_reducible repeat (first | refine bn_ ?_ _ | refine bw_ ?_ | refine ba_ ?_ _)); exact BK132.out) Try.underlying47 rfl (by kernel_rfl)) rfl ?_
 exact ⟨_, by first | rfl | (simp [errW_none, errW_some] <;> rfl) | (simp [*, errW_none, errW_some] <;> rfl), by (with_reducible repeat (first | apply Kd.S_alloc | apply Kd.S_drewN | apply Kd.S_drew)); exact Kd.S_mono (Kd.S_far (p := ⟨gb132, 1, none⟩) (Kd.S_far (p := ⟨gb132, 0, none⟩) (Kd.S_far (p := ⟨gb133, 1, none⟩) (Kd.S_types (Kd.S_types HO136.out BK133.out (by decide)) BK132.out (by decide)) (fun _ hk => hk.1.2) (.slice Ao12 t134.length co12)) (fun _ hk => hk.2) (.int .i64 a0_0)) (fun _ hk => hk.2) (.slice Ao12 t134.length co12)) (fun _ hk => trivial), us_ HB.out⟩

end Go.Proofs.Ytkkibccnpkbbjaa.MFnExactPortHear
