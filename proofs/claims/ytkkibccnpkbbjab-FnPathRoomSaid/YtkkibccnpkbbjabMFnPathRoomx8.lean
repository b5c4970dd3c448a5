/- Functions that the law FnPathRoom reaches, each with the proof that the machine's call comes to just its answer; no conditions but those that each theorem states. Printed by a program of this session over the kit's print. -/
import Derived.Test.YtkkibccnpkbbjabMFnPathRoomx0
import Derived.Test.YtkkibccnpkbbjabMFnPathRoomx1
namespace Go.Proofs.Ytkkibccnpkbbjab.MFnPathRoom
open Go.RowKit Go.Proofs.YtkkibccnpkbbjabV.PrintWords Go.Proofs.YtkkibccnpkbbjabV.PrintLast Go.Proofs.YtkkibccnpkbbjabV.PrintMore
attribute [local go_sem] max2_int min2_int max_two min_two max_three min_three max_four min_four   -- for this text's walks alone
set_option linter.unusedVariables false
set_option linter.unusedSimpArgs false

/-! ### spec_StationOk: function 96 -/
def spec_StationOk.f (k : Nat) (a0_0 : Int) (l0_1 : List (S29)) : Option (Bool) := (spec_l1In.f a0_0 0 65535).bind fun t256 => (if t256 = true then ((spec_RoutesOk.f k l0_1).bind fun t257 => (some t257)) else (some false))
theorem spec_StationOk.mono : ∀ a0 a1 k, LeO (spec_StationOk.f k a0 a1) (spec_StationOk.f (k + 1) a0 a1) := by
 intro a0 a1 k
 unfold spec_StationOk.f
 repeat' first
   | (with_reducible exact spec_RoutesOk.mono _ _)
   | (with_reducible exact LeO.refl _)
   | (with_reducible exact LeO.none _)
   | (with_reducible refine LeO.ite ?_ ?_)
   | (with_reducible refine LeO.bind ?_ (fun _ => ?_))
   | exact spec_RoutesOk.mono _ _
   | exact LeO.none _
   | refine LeO.ite ?_ ?_
   | refine LeO.bind ?_ (fun _ => ?_)
set_option maxHeartbeats 8000000 in
set_option maxRecDepth 100000 in
theorem spec_StationOk.calls (k : Nat) (a0_0 : Int) (A0_1 : Option Addr) (c0_1 : Nat) (l0_1 : List (S29)) (r : Bool) (w : World) (hr0_1 : Kd.C k29 w A0_1 l0_1.length l0_1) (hc0_1 : l0_1.length ≤ c0_1) (h : spec_StationOk.f k a0_0 l0_1 = some r) :
  Calls Try.prog 96 #[.agg #[.int .i64 a0_0, .slice A0_1 l0_1.length c0_1]] w fun e w' => e = .returned (.bool r) ∧ Below w.heap.size w w' := by
 have hu34 := Try.underlying34
 have HR0_1 := mk_ hr0_1
 have HC0_1 := mk_ hc0_1
 clear hr0_1 hc0_1
 have HB := mk_ (Below.refl w.heap.size w)
 have H := h
 unfold spec_StationOk.f at H
 clear h
 replace H := Option.bind_eq_some_iff.mp H
 obtain ⟨t256, A20, H⟩ := H
 (try dsimp only at H)
 have A2 := mk_ A20
 clear A20
 by_cases c3 : t256 = true
 rotate_left
 focus
  replace c3 := Bool.eq_false_iff.mpr c3
  subst c3
  have H1 : (some false) = some r := by rw [if_neg (show ¬ (false = true) by decide)] at H; exact H
  clear H
  have H := H1
  clear H1
  obtain rfl := Option.some.inj H
 rotate_left
 focus
  subst c3
  rw [if_pos rfl] at H
  replace H := Option.bind_eq_some_iff.mp H
  obtain ⟨t257, A40, H⟩ := H
  replace H : (some t257) = some r := H
  have A4 := mk_ A40
  clear A40
  obtain rfl := Option.some.inj H
 rotate_left
 all_goals
  go_enter Try.func96, Try.ntmps96
  go_wp2_with (first | ((with_reducible refine gate_dst (N := 1) rfl ?_); refine box_event ?hg (N := 1) ?hd (cs := #[.int .i64 a0_0, .slice A0_1 l0_1.length c0_1]) (t := 34) ?hr ?_; (case hd => rfl); (case hg => rfl); (case hr => first | (go_simp; done) | (go_simp; rfl)); intro gb1400 hg w1401 hbox hb; have n0_ := mk_ (below_step (ub_ HB.out) hb); have BK255 := mk_ (hbox); have GW255 := mk_ ((by rw [hg]; exact (below_size (ub_ HB.out)) : w.heap.size ≤ gb1400)); have GE255 := ge_ ((by rw [hg]; exact (below_size (ub_ HB.out)) : w.heap.size ≤ gb1400)); replace HB := n0_; clear n0_; clear hb hbox hg; obtain ⟨_, _, _, _⟩ := cells2_ BK255.out) | ((with_reducible refine gate_callee (f := 53) rfl ?_); refine goesL_ (some 5) rfl rfl Try.func53 (by kernel_rfl) rfl #[.int .i64 a0_0, .int .i64 0, .int .i64 65535] rfl (by (try simp only [lm_, lo_, ln_]); try rfl) ?_; (with_reducible refine (spec_l1In.calls a0_0 0 65535 false _ A2.out).mono ?_); rintro e w' ⟨rfl, ⟨nd, rfl⟩⟩; refine ⟨_, rfl, ?_⟩) | ((with_reducible refine gate_callee (f := 53) rfl ?_); refine goesL_ (some 5) rfl rfl Try.func53 (by kernel_rfl) rfl #[.int .i64 a0_0, .int .i64 0, .int .i64 65535] rfl (by (try simp only [lm_, lo_, ln_]); try rfl) ?_; (with_reducible refine (spec_l1In.calls a0_0 0 65535 true _ A2.out).mono ?_); rintro e w' ⟨rfl, ⟨nd, rfl⟩⟩; refine ⟨_, rfl, ?_⟩) | (go_at_call 84; (with_reducible refine (spec_RoutesOk.calls k _ _ l0_1 t257 _ ?side1 ?side2 A4.out).mono ?_); (case side1 => repeat (first | exact (Kd.C_below HR0_1.out (us_ HB.out)) | (with_reducible refine Kd.C_alloc ?_ _) | (with_reducible refine Kd.C_drewN ?_ _) | (with_reducible refine Kd.C_drew ?_))); (case side2 => exact HC0_1.out); rintro e w18560 ⟨rfl, hb⟩; replace BK255 := mk_ (blk_below (u_ BK255.out) hb); replace HB := mk_ (below_step (us_ HB.out) hb)))
  go_ret
  exact ⟨by first | rfl | (simp [errW_none, errW_some] <;> rfl) | (simp [*, errW_none, errW_some] <;> rfl), us_ HB.out⟩

/-! ### spec_NetOk: function 52 -/
mutual
def spec_NetOk.l0 : Nat → List (S34) → Int → Option (Bool)
 | 0, _, _ => none
 | k + 1, x0, x3 => if x3 < (x0.length : Int) then (if 0 ≤ x3 then ((spec_StationOk.f k ((rd_T34 x0 x3).f0) ((rd_T34 x0 x3).f1)).bind fun t259 => (if t259 = true then (spec_NetOk.l1 k x0 x3 0) else (some false))) else (none)) else (some (decide ((x0.length : Int) ≤ 5)))
def spec_NetOk.l1 : Nat → List (S34) → Int → Int → Option (Bool)
 | 0, _, _, _ => none
 | k + 1, x0, x3, x4 => if x4 < x3 then (if 0 ≤ x4 then (if x4 < (x0.length : Int) then (if 0 ≤ x3 then (if x3 < (x0.length : Int) then (if ((rd_T34 x0 x4).f0) = ((rd_T34 x0 x3).f0) then (some false) else (spec_NetOk.l1 k x0 x3 (wrap64 (x4 + 1)))) else (none)) else (none)) else (none)) else (none)) else (spec_NetOk.l0 k x0 (wrap64 (x3 + 1)))
end
def spec_NetOk.f (k : Nat) (l0 : List (S34)) : Option (Bool) := spec_NetOk.l0 k l0 0
theorem spec_NetOk.mono_l : ∀ k, (∀ y0 y1, LeO (spec_NetOk.l0 k y0 y1) (spec_NetOk.l0 (k + 1) y0 y1)) ∧ (∀ y0 y1 y2, LeO (spec_NetOk.l1 k y0 y1 y2) (spec_NetOk.l1 (k + 1) y0 y1 y2))
 | 0 => ⟨fun _ _ r h => by simp [spec_NetOk.l0] at h, fun _ _ _ r h => by simp [spec_NetOk.l1] at h⟩
 | k + 1 => by
  obtain ⟨ih0, ih1⟩ := spec_NetOk.mono_l k
  refine ⟨?_, ?_⟩
  ·intro y0 y1
   unfold spec_NetOk.l0
   repeat' first
   | (with_reducible exact ih0 _ _)
   | (with_reducible exact ih1 _ _ _)
   | (with_reducible exact spec_StationOk.mono _ _ _)
   | (with_reducible exact LeO.refl _)
   | (with_reducible exact LeO.none _)
   | (with_reducible refine LeO.ite ?_ ?_)
   | (with_reducible refine LeO.bind ?_ (fun _ => ?_))
   | exact ih0 _ _
   | exact ih1 _ _ _
   | exact spec_StationOk.mono _ _ _
   | exact LeO.none _
   | refine LeO.ite ?_ ?_
   | refine LeO.bind ?_ (fun _ => ?_)
  ·intro y0 y1 y2
   unfold spec_NetOk.l1
   repeat' first
   | (with_reducible exact ih0 _ _)
   | (with_reducible exact ih1 _ _ _)
   | (with_reducible exact spec_StationOk.mono _ _ _)
   | (with_reducible exact LeO.refl _)
   | (with_reducible exact LeO.none _)
   | (with_reducible refine LeO.ite ?_ ?_)
   | (with_reducible refine LeO.bind ?_ (fun _ => ?_))
   | exact ih0 _ _
   | exact ih1 _ _ _
   | exact spec_StationOk.mono _ _ _
   | exact LeO.none _
   | refine LeO.ite ?_ ?_
   | refine LeO.bind ?_ (fun _ => ?_)
theorem spec_NetOk.mono : ∀ a0 k, LeO (spec_NetOk.f k a0) (spec_NetOk.f (k + 1) a0) := by
 intro a0 k
 obtain ⟨ih0, ih1⟩ := spec_NetOk.mono_l k
 unfold spec_NetOk.f
 repeat' first
   | (with_reducible exact ih0 _ _)
   | (with_reducible exact ih1 _ _ _)
   | (with_reducible exact spec_StationOk.mono _ _ _)
   | (with_reducible exact LeO.refl _)
   | (with_reducible exact LeO.none _)
   | (with_reducible refine LeO.ite ?_ ?_)
   | (with_reducible refine LeO.bind ?_ (fun _ => ?_))
   | exact ih0 _ _
   | exact ih1 _ _ _
   | exact spec_StationOk.mono _ _ _
   | exact LeO.none _
   | refine LeO.ite ?_ ?_
   | refine LeO.bind ?_ (fun _ => ?_)
set_option maxHeartbeats 8000000 in
set_option maxRecDepth 100000 in
theorem spec_NetOk.calls (k : Nat) (A0 : Option Addr) (c0 : Nat) (l0 : List (S34)) (r : Bool) (w : World) (hr0 : Kd.C k34 w A0 l0.length l0) (hc0 : l0.length ≤ c0) (h : spec_NetOk.f k l0 = some r) :
  Calls Try.prog 52 #[.slice A0 l0.length c0] w fun e w' => e = .returned (.bool r) ∧ Below w.heap.size w w' := by
 have hu34 := Try.underlying34
 have HR0 := mk_ hr0
 have HC0 := mk_ hc0
 clear hr0 hc0
 have HB := mk_ (Below.refl w.heap.size w)
 have H : (spec_NetOk.l0 k l0 0) = some r := h
 clear h
 have H' := mk_ H
 clear H
 go_enter Try.func52, Try.ntmps52
 go_wp2
 repeat (go_quiet (fail); try go_wp2)
 go_loopg [3] k (fun kq v3 w' => ∃ (x3_1 : Int), v3 = .int .i64 x3_1 ∧ Aside0 (spec_NetOk.l0 kq l0 x3_1 = some r) ∧ Aside0 (kq ≤ k) ∧ Aside0 (Below w.heap.size w w'))
 case atStart => exact ⟨(0), (by first | rfl | (simp; done) | (simp [*]; done)), H', ⟨Nat.le_refl _⟩, ⟨ub_ HB.out⟩⟩
 case round =>
  clear H'
  obtain ⟨x3_1, rfl, HA, HK1, HB⟩ := hrel
  cases gk with
  | zero => exact absurd HA.out (by simp [spec_NetOk.l0])
  | succ k1 =>
   have H := HA.out
   clear HA
   simp only [spec_NetOk.l0] at H
   by_cases c2 : x3_1 < (l0.length : Int)
   rotate_left
   ·rw [if_neg c2] at H
    have c2b0 : decide (x3_1 < (l0.length : Int)) = false := decide_eq_false c2
    clear c2
    obtain rfl := Option.some.inj H
    go_wp2
    repeat (go_quiet (fail); try go_wp2)
    go_ret
    exact ⟨by first | rfl | (simp [errW_none, errW_some] <;> rfl) | (simp [*, errW_none, errW_some] <;> rfl), by repeat (first | (with_reducible first | exact HB.out | apply na_ | apply nn_ | apply nw_) | exact HB.out)⟩
   rw [if_pos c2] at H
   have c2b0 : decide (x3_1 < (l0.length : Int)) = true := decide_eq_true c2
   clear c2
   by_cases c3 : 0 ≤ x3_1
   rotate_left
   ·rw [if_neg c3] at H
    exact absurd H (by simp)
   rw [if_pos c3] at H
   have c3b0 : decide (0 ≤ x3_1) = true := decide_eq_true c3
   clear c3
   replace H := Option.bind_eq_some_iff.mp H
   obtain ⟨t259, A40, H⟩ := H
   replace H : (if t259 = true then (spec_NetOk.l1 k1 l0 x3_1 0) else (some false)) = some r := H
   have A4 := mk_ A40
   clear A40
   by_cases c5 : t259 = true
   rotate_left
   ·replace c5 := Bool.eq_false_iff.mpr c5
    subst c5
    have H1 : (some false) = some r := by rw [if_neg (show ¬ (false = true) by decide)] at H; exact H
    clear H
    have H := H1
    clear H1
    obtain rfl := Option.some.inj H
    have p258 : 0 ≤ (x3_1 : Int) := of_decide_eq_true (by first | (with_reducible assumption) | assumption)
    have q258 : x3_1 < (l0.length : Int) := of_decide_eq_true (by first | (with_reducible assumption) | assumption)
    obtain ⟨ad258, A258_1, c258_1, e258, hx258_0, hx258_1, hl258_1, hi258_1⟩ := at_T34 HR0.out x3_1 p258 q258
    cases e258
    replace hx258_0 := (HB.out.cell (lc_ w _ hx258_0)).trans hx258_0
    replace hx258_1 := (HB.out.cell (lc_ w _ hx258_1)).trans hx258_1
    have HR258_1 := mk_ hi258_1
    have HC258_1 := mk_ hl258_1
    clear hi258_1 hl258_1
    replace p258 := eq_true p258
    replace q258 := eq_true q258
    go_wp2_with (first | (go_at_call 96; (with_reducible refine (spec_StationOk.calls k1 ((rd_T34 l0 x3_1).f0) _ _ ((rd_T34 l0 x3_1).f1) false _ ?side1 ?side2 A4.out).mono ?_); (case side1 => repeat (first | exact (Kd.C_below HR258_1.out HB.out) | (with_reducible refine Kd.C_alloc ?_ _) | (with_reducible refine Kd.C_drewN ?_ _) | (with_reducible refine Kd.C_drew ?_))); (case side2 => exact HC258_1.out); rintro e w13 ⟨rfl, hb⟩; replace HB := mk_ (below_step (ub_ HB.out) hb)))
    repeat (go_quiet (first | (go_at_call 96; (with_reducible refine (spec_StationOk.calls k1 ((rd_T34 l0 x3_1).f0) _ _ ((rd_T34 l0 x3_1).f1) false _ ?side1 ?side2 A4.out).mono ?_); (case side1 => repeat (first | exact (Kd.C_below HR258_1.out HB.out) | (with_reducible refine Kd.C_alloc ?_ _) | (with_reducible refine Kd.C_drewN ?_ _) | (with_reducible refine Kd.C_drew ?_))); (case side2 => exact HC258_1.out); rintro e w13 ⟨rfl, hb⟩; replace HB := mk_ (below_step (ub_ HB.out) hb))); try go_wp2_with (first | (go_at_call 96; (with_reducible refine (spec_StationOk.calls k1 ((rd_T34 l0 x3_1).f0) _ _ ((rd_T34 l0 x3_1).f1) false _ ?side1 ?side2 A4.out).mono ?_); (case side1 => repeat (first | exact (Kd.C_below HR258_1.out HB.out) | (with_reducible refine Kd.C_alloc ?_ _) | (with_reducible refine Kd.C_drewN ?_ _) | (with_reducible refine Kd.C_drew ?_))); (case side2 => exact HC258_1.out); rintro e w13 ⟨rfl, hb⟩; replace HB := mk_ (below_step (ub_ HB.out) hb))))
    go_ret
    exact ⟨by first | rfl | (simp [errW_none, errW_some] <;> rfl) | (simp [*, errW_none, errW_some] <;> rfl), by repeat (first | (with_reducible first | exact HB.out | apply na_ | apply nn_ | apply nw_) | exact HB.out)⟩
   subst c5
   have H1 : (spec_NetOk.l1 k1 l0 x3_1 0) = some r := by rw [if_pos rfl] at H; exact H
   clear H
   have H := H1
   clear H1
   have H' := mk_ H
   clear H
   have p258 : 0 ≤ (x3_1 : Int) := of_decide_eq_true (by first | (with_reducible assumption) | assumption)
   have q258 : x3_1 < (l0.length : Int) := of_decide_eq_true (by first | (with_reducible assumption) | assumption)
   obtain ⟨ad258, A258_1, c258_1, e258, hx258_0, hx258_1, hl258_1, hi258_1⟩ := at_T34 HR0.out x3_1 p258 q258
   cases e258
   replace hx258_0 := (HB.out.cell (lc_ w _ hx258_0)).trans hx258_0
   replace hx258_1 := (HB.out.cell (lc_ w _ hx258_1)).trans hx258_1
   have HR258_1 := mk_ hi258_1
   have HC258_1 := mk_ hl258_1
   clear hi258_1 hl258_1
   replace p258 := eq_true p258
   replace q258 := eq_true q258
   go_wp2_with (first | (go_at_call 96; (with_reducible refine (spec_StationOk.calls k1 ((rd_T34 l0 x3_1).f0) _ _ ((rd_T34 l0 x3_1).f1) true _ ?side1 ?side2 A4.out).mono ?_); (case side1 => repeat (first | exact (Kd.C_below HR258_1.out HB.out) | (with_reducible refine Kd.C_alloc ?_ _) | (with_reducible refine Kd.C_drewN ?_ _) | (with_reducible refine Kd.C_drew ?_))); (case side2 => exact HC258_1.out); rintro e w6 ⟨rfl, hb⟩; replace HB := mk_ (below_step (ub_ HB.out) hb)))
   repeat (go_quiet (first | (go_at_call 96; (with_reducible refine (spec_StationOk.calls k1 ((rd_T34 l0 x3_1).f0) _ _ ((rd_T34 l0 x3_1).f1) true _ ?side1 ?side2 A4.out).mono ?_); (case side1 => repeat (first | exact (Kd.C_below HR258_1.out HB.out) | (with_reducible refine Kd.C_alloc ?_ _) | (with_reducible refine Kd.C_drewN ?_ _) | (with_reducible refine Kd.C_drew ?_))); (case side2 => exact HC258_1.out); rintro e w6 ⟨rfl, hb⟩; replace HB := mk_ (below_step (ub_ HB.out) hb))); try go_wp2_with (first | (go_at_call 96; (with_reducible refine (spec_StationOk.calls k1 ((rd_T34 l0 x3_1).f0) _ _ ((rd_T34 l0 x3_1).f1) true _ ?side1 ?side2 A4.out).mono ?_); (case side1 => repeat (first | exact (Kd.C_below HR258_1.out HB.out) | (with_reducible refine Kd.C_alloc ?_ _) | (with_reducible refine Kd.C_drewN ?_ _) | (with_reducible refine Kd.C_drew ?_))); (case side2 => exact HC258_1.out); rintro e w6 ⟨rfl, hb⟩; replace HB := mk_ (below_step (ub_ HB.out) hb))))
   go_loopg [4] k1 (fun kq v4 w' => ∃ (x4_2 : Int), v4 = .int .i64 x4_2 ∧ Aside0 (spec_NetOk.l1 kq l0 x3_1 x4_2 = some r) ∧ Aside0 (kq ≤ k1) ∧ Aside0 (Below w.heap.size w w'))
   case atStart => exact ⟨(0), (by first | rfl | (simp; done) | (simp [*]; done)), H', ⟨Nat.le_refl _⟩, ⟨ub_ HB.out⟩⟩
   case round =>
    clear H'
    try clear c2
    try clear c2b0
    try clear p2
    try clear q2
    try clear hx2
    try clear c3
    try clear c3b0
    try clear c5
    try clear hx258_0
    try clear hx258_1
    try clear p258
    try clear q258
    obtain ⟨x4_2, rfl, HA, HK2, HB⟩ := hrel
    cases gk with
    | zero => exact absurd HA.out (by simp [spec_NetOk.l1])
    | succ k2 =>
     have H := HA.out
     clear HA
     simp only [spec_NetOk.l1] at H
     by_cases c7 : x4_2 < x3_1
     rotate_left
     ·rw [if_neg c7] at H
      have c7b0 : decide (x4_2 < x3_1) = false := decide_eq_false c7
      clear c7
      have H' := mk_ H
      clear H
      go_wp2
      repeat (go_quiet (fail); try go_wp2)
      go_roundg k2
      case measure => have := HK1.out; have := HK2.out; omega
      case rel => exact ⟨(wrap64 (x3_1 + 1)), (by first | rfl | (simp; done) | (simp [*]; done)), H', ⟨by have := HK1.out; have := HK2.out; omega⟩, ⟨ub_ HB.out⟩⟩
     rw [if_pos c7] at H
     have c7b0 : decide (x4_2 < x3_1) = true := decide_eq_true c7
     clear c7
     by_cases c8 : 0 ≤ x4_2
     rotate_left
     ·rw [if_neg c8] at H
      exact absurd H (by simp)
     rw [if_pos c8] at H
     have c8b0 : decide (0 ≤ x4_2) = true := decide_eq_true c8
     clear c8
     by_cases c9 : x4_2 < (l0.length : Int)
     rotate_left
     ·rw [if_neg c9] at H
      exact absurd H (by simp)
     rw [if_pos c9] at H
     have c9b0 : decide (x4_2 < (l0.length : Int)) = true := decide_eq_true c9
     clear c9
     by_cases c10 : 0 ≤ x3_1
     rotate_left
     ·rw [if_neg c10] at H
      exact absurd H (by simp)
     rw [if_pos c10] at H
     have c10b0 : decide (0 ≤ x3_1) = true := decide_eq_true c10
     clear c10
     by_cases c11 : x3_1 < (l0.length : Int)
     rotate_left
     ·rw [if_neg c11] at H
      exact absurd H (by simp)
     rw [if_pos c11] at H
     have c11b0 : decide (x3_1 < (l0.length : Int)) = true := decide_eq_true c11
     clear c11
     by_cases c12 : ((rd_T34 l0 x4_2).f0) = ((rd_T34 l0 x3_1).f0)
     ·rw [if_pos c12] at H
      have c12b0 : (((rd_T34 l0 x4_2).f0) == ((rd_T34 l0 x3_1).f0)) = true := beq_iff_eq.mpr c12
      have c12b1 : (((rd_T34 l0 x4_2).f0) != ((rd_T34 l0 x3_1).f0)) = false := bne_eq_false_iff_eq.mpr c12
      clear c12
      obtain rfl := Option.some.inj H
      have p260 : 0 ≤ (x4_2 : Int) := of_decide_eq_true (by first | (with_reducible assumption) | assumption)
      have q260 : x4_2 < (l0.length : Int) := of_decide_eq_true (by first | (with_reducible assumption) | assumption)
      obtain ⟨ad260, A260_1, c260_1, e260, hx260_0, hx260_1, hl260_1, hi260_1⟩ := at_T34 HR0.out x4_2 p260 q260
      obtain rfl : ad258 = ad260 := (by injection e260)
      replace hx260_0 := (HB.out.cell (lc_ w _ hx260_0)).trans hx260_0
      replace hx260_1 := (HB.out.cell (lc_ w _ hx260_1)).trans hx260_1
      have HR260_1 := mk_ hi260_1
      have HC260_1 := mk_ hl260_1
      clear hi260_1 hl260_1
      replace p260 := eq_true p260
      replace q260 := eq_true q260
      have p261 : 0 ≤ (x3_1 : Int) := of_decide_eq_true (by first | (with_reducible assumption) | assumption)
      have q261 : x3_1 < (l0.length : Int) := of_decide_eq_true (by first | (with_reducible assumption) | assumption)
      obtain ⟨ad261, A261_1, c261_1, e261, hx261_0, hx261_1, hl261_1, hi261_1⟩ := at_T34 HR0.out x3_1 p261 q261
      obtain rfl : ad258 = ad261 := (by injection e261)
      replace hx261_0 := (HB.out.cell (lc_ w _ hx261_0)).trans hx261_0
      replace hx261_1 := (HB.out.cell (lc_ w _ hx261_1)).trans hx261_1
      have HR261_1 := mk_ hi261_1
      have HC261_1 := mk_ hl261_1
      clear hi261_1 hl261_1
      replace p261 := eq_true p261
      replace q261 := eq_true q261
      go_wp2
      repeat (go_quiet (fail); try go_wp2)
      go_ret
      exact ⟨by first | rfl | (simp [errW_none, errW_some] <;> rfl) | (simp [*, errW_none, errW_some] <;> rfl), by repeat (first | (with_reducible first | exact HB.out | apply na_ | apply nn_ | apply nw_) | exact HB.out)⟩
     rw [if_neg c12] at H
     have c12b0 : (((rd_T34 l0 x4_2).f0) == ((rd_T34 l0 x3_1).f0)) = false := beq_eq_false_iff_ne.mpr c12
     have c12b1 : (((rd_T34 l0 x4_2).f0) != ((rd_T34 l0 x3_1).f0)) = true := bne_iff_ne.mpr c12
     have H' := mk_ H
     clear H
     have p260 : 0 ≤ (x4_2 : Int) := of_decide_eq_true (by first | (with_reducible assumption) | assumption)
     have q260 : x4_2 < (l0.length : Int) := of_decide_eq_true (by first | (with_reducible assumption) | assumption)
     obtain ⟨ad260, A260_1, c260_1, e260, hx260_0, hx260_1, hl260_1, hi260_1⟩ := at_T34 HR0.out x4_2 p260 q260
     obtain rfl : ad258 = ad260 := (by injection e260)
     replace hx260_0 := (HB.out.cell (lc_ w _ hx260_0)).trans hx260_0
     replace hx260_1 := (HB.out.cell (lc_ w _ hx260_1)).trans hx260_1
     have HR260_1 := mk_ hi260_1
     have HC260_1 := mk_ hl260_1
     clear hi260_1 hl260_1
     replace p260 := eq_true p260
     replace q260 := eq_true q260
     have p261 : 0 ≤ (x3_1 : Int) := of_decide_eq_true (by first | (with_reducible assumption) | assumption)
     have q261 : x3_1 < (l0.length : Int) := of_decide_eq_true (by first | (with_reducible assumption) | assumption)
     obtain ⟨ad261, A261_1, c261_1, e261, hx261_0, hx261_1, hl261_1, hi261_1⟩ := at_T34 HR0.out x3_1 p261 q261
     obtain rfl : ad258 = ad261 := (by injection e261)
     replace hx261_0 := (HB.out.cell (lc_ w _ hx261_0)).trans hx261_0
     replace hx261_1 := (HB.out.cell (lc_ w _ hx261_1)).trans hx261_1
     have HR261_1 := mk_ hi261_1
     have HC261_1 := mk_ hl261_1
     clear hi261_1 hl261_1
     replace p261 := eq_true p261
     replace q261 := eq_true q261
     go_wp2
     repeat (go_quiet (fail); try go_wp2)
     go_roundg k2
     case measure => have := HK1.out; have := HK2.out; omega
     case rel => exact ⟨(wrap64 (x4_2 + 1)), (by first | rfl | (simp; done) | (simp [*]; done)), H', ⟨by have := HK1.out; have := HK2.out; omega⟩, ⟨ub_ HB.out⟩⟩

end Go.Proofs.Ytkkibccnpkbbjab.MFnPathRoom
