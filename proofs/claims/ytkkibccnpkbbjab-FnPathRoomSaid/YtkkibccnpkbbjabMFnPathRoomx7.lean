/- Functions that the law FnPathRoom reaches, each with the proof that the machine's call comes to just its answer; no conditions but those that each theorem states. Printed by a program of this session over the kit's print. -/
import Derived.Test.YtkkibccnpkbbjabMFnPathRoomx0
import Derived.Test.YtkkibccnpkbbjabMFnPathRoomx5
import Derived.Test.YtkkibccnpkbbjabMFnPathRoomx6
import Derived.RangeFuncNested
import Derived.RangeFuncBound
import Derived.RangeFuncCalls
import Derived.RangeFuncLeaves
import Derived.RangeFuncBox
import Derived.RangeFuncFrom
import Derived.RangeFuncWrites
import Derived.Shelf.Abstract
import Derived.WalkKit
import Derived.OwnWalkIn
import Derived.TacticsInMore
import Derived.LoopNIn
import Derived.LoopIn
import Derived.BigRegionIn
namespace Go.Proofs.Ytkkibccnpkbbjab.MFnPathRoom
open Go.RowKit Go.Proofs.YtkkibccnpkbbjabV.PrintWords Go.Proofs.YtkkibccnpkbbjabV.PrintLast Go.Proofs.YtkkibccnpkbbjabV.PrintMore
attribute [local go_sem] max2_int min2_int max_two min_two max_three min_three max_four min_four   -- for this text's walks alone
set_option linter.unusedVariables false
set_option linter.unusedSimpArgs false

/-! ### impl_StationOk: function 91 -/
def impl_StationOk.f (k : Nat) (a0_0 : Int) (l0_1 : List (S29)) : Option (Bool) := (impl_word.f a0_0).bind fun t236 => (if t236 = true then ((impl_RoutesOk.f k l0_1).bind fun t237 => (some t237)) else (some false))
theorem impl_StationOk.mono : ∀ a0 a1 k, LeO (impl_StationOk.f k a0 a1) (impl_StationOk.f (k + 1) a0 a1) := by
 intro a0 a1 k
 unfold impl_StationOk.f
 repeat' first
   | (with_reducible exact impl_RoutesOk.mono _ _)
   | (with_reducible exact LeO.refl _)
   | (with_reducible exact LeO.none _)
   | (with_reducible refine LeO.ite ?_ ?_)
   | (with_reducible refine LeO.bind ?_ (fun _ => ?_))
   | exact impl_RoutesOk.mono _ _
   | exact LeO.none _
   | refine LeO.ite ?_ ?_
   | refine LeO.bind ?_ (fun _ => ?_)
set_option maxHeartbeats 8000000 in
set_option maxRecDepth 100000 in
theorem impl_StationOk.calls (k : Nat) (a0_0 : Int) (A0_1 : Option Addr) (c0_1 : Nat) (l0_1 : List (S29)) (r : Bool) (w : World) (hr0_1 : Kd.C k29 w A0_1 l0_1.length l0_1) (hc0_1 : l0_1.length ≤ c0_1) (h : impl_StationOk.f k a0_0 l0_1 = some r) :
  Calls Try.prog 91 #[.agg #[.int .i64 a0_0, .slice A0_1 l0_1.length c0_1]] w fun e w' => e = .returned (.bool r) ∧ Below w.heap.size w w' := by
 have hu34 := Try.underlying34
 have HR0_1 := mk_ hr0_1
 have HC0_1 := mk_ hc0_1
 clear hr0_1 hc0_1
 have HB := mk_ (Below.refl w.heap.size w)
 have H := h
 unfold impl_StationOk.f at H
 clear h
 replace H := Option.bind_eq_some_iff.mp H
 obtain ⟨t236, A20, H⟩ := H
 (try dsimp only at H)
 have A2 := mk_ A20
 clear A20
 by_cases c3 : t236 = true
 rotate_left
 focus
  replace c3 := Bool.eq_false_iff.mpr c3
  subst c3
  have H1 : (some false) = some r := by rw [if_neg (show ¬ (false = true) by decide)] at H; exact H
  clear H
  have H := H1
  clear H1
  obtain rfl := Option.some.inj H
 rotate_left
 focus
  subst c3
  rw [if_pos rfl] at H
  replace H := Option.bind_eq_some_iff.mp H
  obtain ⟨t237, A40, H⟩ := H
  replace H : (some t237) = some r := H
  have A4 := mk_ A40
  clear A40
  obtain rfl := Option.some.inj H
 rotate_left
 all_goals
  go_enter Try.func91, Try.ntmps91
  go_wp2_with (first | ((with_reducible refine gate_dst (N := 1) rfl ?_); refine box_event ?hg (N := 1) ?hd (cs := #[.int .i64 a0_0, .slice A0_1 l0_1.length c0_1]) (t := 34) ?hr ?_; (case hd => rfl); (case hg => rfl); (case hr => first | (go_simp; done) | (go_simp; rfl)); intro gb1400 hg w1401 hbox hb; have n0_ := mk_ (below_step (ub_ HB.out) hb); have BK235 := mk_ (hbox); have GW235 := mk_ ((by rw [hg]; exact (below_size (ub_ HB.out)) : w.heap.size ≤ gb1400)); have GE235 := ge_ ((by rw [hg]; exact (below_size (ub_ HB.out)) : w.heap.size ≤ gb1400)); replace HB := n0_; clear n0_; clear hb hbox hg; obtain ⟨hcz100235_0, hcz100235_1, hfz100235_0, hfz100235_1⟩ := cells2_ BK235.out) | ((with_reducible refine gate_callee (f := 49) rfl ?_); refine goesL_ (some 5) rfl rfl Try.func49 (by kernel_rfl) rfl #[.int .i64 a0_0] rfl (by (try simp only [lm_, lo_, ln_]); try rfl) ?_; (with_reducible refine (impl_word.calls a0_0 false _ A2.out).mono ?_); rintro e w' ⟨rfl, ⟨nd, rfl⟩⟩; refine ⟨_, rfl, ?_⟩) | ((with_reducible refine gate_callee (f := 49) rfl ?_); refine goesL_ (some 5) rfl rfl Try.func49 (by kernel_rfl) rfl #[.int .i64 a0_0] rfl (by (try simp only [lm_, lo_, ln_]); try rfl) ?_; (with_reducible refine (impl_word.calls a0_0 true _ A2.out).mono ?_); rintro e w' ⟨rfl, ⟨nd, rfl⟩⟩; refine ⟨_, rfl, ?_⟩) | (go_at_call 42; (with_reducible refine (impl_RoutesOk.calls k _ _ l0_1 t237 _ ?side1 ?side2 A4.out).mono ?_); (case side1 => repeat (first | exact (Kd.C_below HR0_1.out (us_ HB.out)) | (with_reducible refine Kd.C_alloc ?_ _) | (with_reducible refine Kd.C_drewN ?_ _) | (with_reducible refine Kd.C_drew ?_))); (case side2 => exact HC0_1.out); rintro e w18000 ⟨rfl, hb⟩; replace BK235 := mk_ (blk_below (u_ BK235.out) hb); replace HB := mk_ (below_step (us_ HB.out) hb)))
  go_ret
  exact ⟨by first | rfl | (simp [errW_none, errW_some] <;> rfl) | (simp [*, errW_none, errW_some] <;> rfl), us_ HB.out⟩

/-! ### impl_NetOk: function 47 -/
def impl_NetOk.l0 : Nat → List (S34) → List (S34) → Int → Int → Option (Bool)
 | 0, _, _, _, _ => none
 | k + 1, x0, x5, x6, x7 => if x7 < x6 then (if 0 ≤ x7 then (if x7 < (x5.length : Int) then ((impl_StationOk.f k ((rd_T34 x5 x7).f0) ((rd_T34 x5 x7).f1)).bind fun t240 => (if t240 = true then ((impl_stationAt.f x0 ((rd_T34 x5 x7).f0)).bind fun t241 => (if t241 < x7 then (some false) else (impl_NetOk.l0 k x0 x5 x6 (wrap64 (x7 + 1))))) else (some false))) else (none)) else (none)) else (some (decide ((x0.length : Int) ≤ 5)))
def impl_NetOk.f (k : Nat) (l0 : List (S34)) : Option (Bool) := impl_NetOk.l0 k l0 l0 (l0.length : Int) 0
theorem impl_NetOk.mono_l : ∀ k, (∀ y0 y1 y2 y3, LeO (impl_NetOk.l0 k y0 y1 y2 y3) (impl_NetOk.l0 (k + 1) y0 y1 y2 y3))
 | 0 => fun _ _ _ _ r h => by simp [impl_NetOk.l0] at h
 | k + 1 => by
  have ih0 := impl_NetOk.mono_l k
  ·intro y0 y1 y2 y3
   unfold impl_NetOk.l0
   repeat' first
   | (with_reducible exact ih0 _ _ _ _)
   | (with_reducible exact impl_StationOk.mono _ _ _)
   | (with_reducible exact LeO.refl _)
   | (with_reducible exact LeO.none _)
   | (with_reducible refine LeO.ite ?_ ?_)
   | (with_reducible refine LeO.bind ?_ (fun _ => ?_))
   | exact ih0 _ _ _ _
   | exact impl_StationOk.mono _ _ _
   | exact LeO.none _
   | refine LeO.ite ?_ ?_
   | refine LeO.bind ?_ (fun _ => ?_)
theorem impl_NetOk.mono : ∀ a0 k, LeO (impl_NetOk.f k a0) (impl_NetOk.f (k + 1) a0) := by
 intro a0 k
 have ih0 := impl_NetOk.mono_l k
 unfold impl_NetOk.f
 repeat' first
   | (with_reducible exact ih0 _ _ _ _)
   | (with_reducible exact impl_StationOk.mono _ _ _)
   | (with_reducible exact LeO.refl _)
   | (with_reducible exact LeO.none _)
   | (with_reducible refine LeO.ite ?_ ?_)
   | (with_reducible refine LeO.bind ?_ (fun _ => ?_))
   | exact ih0 _ _ _ _
   | exact impl_StationOk.mono _ _ _
   | exact LeO.none _
   | refine LeO.ite ?_ ?_
   | refine LeO.bind ?_ (fun _ => ?_)
set_option maxHeartbeats 8000000 in
set_option maxRecDepth 100000 in
theorem impl_NetOk.calls (k : Nat) (A0 : Option Addr) (c0 : Nat) (l0 : List (S34)) (r : Bool) (w : World) (hr0 : Kd.C k34 w A0 l0.length l0) (hc0 : l0.length ≤ c0) (h : impl_NetOk.f k l0 = some r) :
  Calls Try.prog 47 #[.slice A0 l0.length c0] w fun e w' => e = .returned (.bool r) ∧ Below w.heap.size w w' := by
 have hu34 := Try.underlying34
 have HR0 := mk_ hr0
 have HC0 := mk_ hc0
 clear hr0 hc0
 have HB := mk_ (Below.refl w.heap.size w)
 have H : (impl_NetOk.l0 k l0 l0 (l0.length : Int) 0) = some r := h
 clear h
 have H' := mk_ H
 clear H
 go_enter Try.func47, Try.ntmps47
 go_wp2
 go_loopg [7] k (fun kq v7 w' => ∃ (x7_1 : Int), v7 = .int .i64 x7_1 ∧ Aside0 (impl_NetOk.l0 kq l0 l0 (l0.length : Int) x7_1 = some r) ∧ Aside0 (kq ≤ k) ∧ Aside0 (Below w.heap.size w w'))
 case atStart => exact ⟨(0), (by first | rfl | (simp; done) | (simp [*]; done)), H', ⟨Nat.le_refl _⟩, ⟨ub_ HB.out⟩⟩
 case round =>
  clear H'
  obtain ⟨x7_1, rfl, HA, HK1, HB⟩ := hrel
  cases gk with
  | zero => exact absurd HA.out (by simp [impl_NetOk.l0])
  | succ k1 =>
   have H := HA.out
   clear HA
   simp only [impl_NetOk.l0] at H
   by_cases c2 : x7_1 < (l0.length : Int)
   rotate_left
   focus
    rw [if_neg c2] at H
    have c2b0 : decide (x7_1 < (l0.length : Int)) = false := decide_eq_false c2
    clear c2
    obtain rfl := Option.some.inj H
   rotate_left
   focus
    rw [if_pos c2] at H
    have c2b0 : decide (x7_1 < (l0.length : Int)) = true := decide_eq_true c2
    clear c2
    by_cases c3 : 0 ≤ x7_1
    rotate_left
    ·rw [if_neg c3] at H
     exact absurd H (by simp)
    rw [if_pos c3] at H
    have c3b0 : decide (0 ≤ x7_1) = true := decide_eq_true c3
    clear c3
    by_cases c4 : x7_1 < (l0.length : Int)
    rotate_left
    ·rw [if_neg c4] at H
     exact absurd H (by simp)
    rw [if_pos c4] at H
    have c4b0 : decide (x7_1 < (l0.length : Int)) = true := decide_eq_true c4
    clear c4
    replace H := Option.bind_eq_some_iff.mp H
    obtain ⟨t240, A50, H⟩ := H
    (try dsimp only at H)
    have A5 := mk_ A50
    clear A50
    by_cases c6 : t240 = true
    rotate_left
    focus
     replace c6 := Bool.eq_false_iff.mpr c6
     subst c6
     have H1 : (some false) = some r := by rw [if_neg (show ¬ (false = true) by decide)] at H; exact H
     clear H
     have H := H1
     clear H1
     obtain rfl := Option.some.inj H
     have p238 : 0 ≤ (x7_1 : Int) := of_decide_eq_true (by first | (with_reducible assumption) | assumption)
     have q238 : x7_1 < (l0.length : Int) := of_decide_eq_true (by first | (with_reducible assumption) | assumption)
     obtain ⟨ad238, A238_1, c238_1, e238, hx238_0, hx238_1, hl238_1, hi238_1⟩ := at_T34 HR0.out x7_1 p238 q238
     cases e238
     replace hx238_0 := (HB.out.cell (lc_ w _ hx238_0)).trans hx238_0
     replace hx238_1 := (HB.out.cell (lc_ w _ hx238_1)).trans hx238_1
     have HR238_1 := mk_ hi238_1
     have HC238_1 := mk_ hl238_1
     clear hi238_1 hl238_1
     replace p238 := eq_true p238
     replace q238 := eq_true q238
    rotate_left
    focus
     subst c6
     rw [if_pos rfl] at H
     replace H := Option.bind_eq_some_iff.mp H
     obtain ⟨t241, A70, H⟩ := H
     (try dsimp only at H)
     have A7 := mk_ A70
     clear A70
     by_cases c8 : t241 < x7_1
     focus
      rw [if_pos c8] at H
      have c8b0 : decide (t241 < x7_1) = true := decide_eq_true c8
      clear c8
      obtain rfl := Option.some.inj H
      have p238 : 0 ≤ (x7_1 : Int) := of_decide_eq_true (by first | (with_reducible assumption) | assumption)
      have q238 : x7_1 < (l0.length : Int) := of_decide_eq_true (by first | (with_reducible assumption) | assumption)
      obtain ⟨ad238, A238_1, c238_1, e238, hx238_0, hx238_1, hl238_1, hi238_1⟩ := at_T34 HR0.out x7_1 p238 q238
      cases e238
      replace hx238_0 := (HB.out.cell (lc_ w _ hx238_0)).trans hx238_0
      replace hx238_1 := (HB.out.cell (lc_ w _ hx238_1)).trans hx238_1
      have HR238_1 := mk_ hi238_1
      have HC238_1 := mk_ hl238_1
      clear hi238_1 hl238_1
      replace p238 := eq_true p238
      replace q238 := eq_true q238
     rotate_left
     focus
      rw [if_neg c8] at H
      have c8b0 : decide (t241 < x7_1) = false := decide_eq_false c8
      clear c8
      have H' := mk_ H
      clear H
      have p238 : 0 ≤ (x7_1 : Int) := of_decide_eq_true (by first | (with_reducible assumption) | assumption)
      have q238 : x7_1 < (l0.length : Int) := of_decide_eq_true (by first | (with_reducible assumption) | assumption)
      obtain ⟨ad238, A238_1, c238_1, e238, hx238_0, hx238_1, hl238_1, hi238_1⟩ := at_T34 HR0.out x7_1 p238 q238
      cases e238
      replace hx238_0 := (HB.out.cell (lc_ w _ hx238_0)).trans hx238_0
      replace hx238_1 := (HB.out.cell (lc_ w _ hx238_1)).trans hx238_1
      have HR238_1 := mk_ hi238_1
      have HC238_1 := mk_ hl238_1
      clear hi238_1 hl238_1
      replace p238 := eq_true p238
      replace q238 := eq_true q238
     rotate_left
    rotate_left 2
   rotate_left 3
   all_goals
    go_wp2_with (first | ((with_reducible refine gate_dst (N := 4) rfl ?_); refine box_event ?hg (N := 4) ?hd (cs := #[.int .i64 0, .slice none 0 0]) (t := 34) ?hr ?_; (case hd => rfl); (case hg => rfl); (case hr => first | (go_simp; done) | (go_simp; rfl)); intro gb18040 hg w18041 hbox hb; have n0_ := mk_ (below_step (ub_ HB.out) hb); have BK239 := mk_ (hbox); have GW239 := mk_ ((by rw [hg]; exact (below_size (ub_ HB.out)) : w.heap.size ≤ gb18040)); have GE239 := ge_ ((by rw [hg]; exact (below_size (ub_ HB.out)) : w.heap.size ≤ gb18040)); replace HB := n0_; clear n0_; clear hb hbox hg; obtain ⟨_, _, _, _⟩ := cells2_ BK239.out) | ((with_reducible refine gate_callee (f := 91) rfl ?_); refine goesL_ (some 13) rfl rfl Try.func91 (by kernel_rfl) rfl #[.agg #[.int .i64 ((rd_T34 l0 x7_1).f0), .slice A238_1 ((rd_T34 l0 x7_1).f1).length c238_1]] rfl (by (try simp only [lm_, lo_, ln_]); try rfl) ?_; (with_reducible refine (impl_StationOk.calls k1 ((rd_T34 l0 x7_1).f0) _ _ ((rd_T34 l0 x7_1).f1) false _ ?side1 ?side2 A5.out).mono ?_); (case side1 => exact Kd.C_below HR238_1.out (us_ HB.out)); (case side2 => exact HC238_1.out); rintro e w18080 ⟨rfl, hb⟩; refine ⟨_, rfl, ?_⟩; replace BK239 := mk_ (blk_below (g := gb18040) (o := .cells #[.int .i64 ((rd_T34 l0 x7_1).f0), .slice A238_1 ((rd_T34 l0 x7_1).f1).length c238_1] 34 (0, 0)) (by (with_reducible repeat (first | refine bn_ ?_ _ | refine bw_ ?_ | refine ba_ ?_ _)); refine blk_put (cs := #[.int .i64 ((rd_T34 l0 x7_1).f0), .slice none 0 0]) ?_ 1 _ rfl; (with_reducible repeat (first | refine bn_ ?_ _ | refine bw_ ?_ | refine ba_ ?_ _)); refine blk_put (cs := #[.int .i64 0, .slice none 0 0]) ?_ 0 _ rfl; (with_reducible repeat (first | refine bn_ ?_ _ | refine bw_ ?_ | refine ba_ ?_ _)); exact BK239.out) hb); replace HB := mk_ (below_step (us_ HB.out) hb)) | ((with_reducible refine gate_callee (f := 91) rfl ?_); refine goesL_ (some 13) rfl rfl Try.func91 (by kernel_rfl) rfl #[.agg #[.int .i64 ((rd_T34 l0 x7_1).f0), .slice A238_1 ((rd_T34 l0 x7_1).f1).length c238_1]] rfl (by (try simp only [lm_, lo_, ln_]); try rfl) ?_; (with_reducible refine (impl_StationOk.calls k1 ((rd_T34 l0 x7_1).f0) _ _ ((rd_T34 l0 x7_1).f1) true _ ?side1 ?side2 A5.out).mono ?_); (case side1 => exact Kd.C_below HR238_1.out (us_ HB.out)); (case side2 => exact HC238_1.out); rintro e w18080 ⟨rfl, hb⟩; refine ⟨_, rfl, ?_⟩; replace BK239 := mk_ (blk_below (g := gb18040) (o := .cells #[.int .i64 ((rd_T34 l0 x7_1).f0), .slice A238_1 ((rd_T34 l0 x7_1).f1).length c238_1] 34 (0, 0)) (by (with_reducible repeat (first | refine bn_ ?_ _ | refine bw_ ?_ | refine ba_ ?_ _)); refine blk_put (cs := #[.int .i64 ((rd_T34 l0 x7_1).f0), .slice none 0 0]) ?_ 1 _ rfl; (with_reducible repeat (first | refine bn_ ?_ _ | refine bw_ ?_ | refine ba_ ?_ _)); refine blk_put (cs := #[.int .i64 0, .slice none 0 0]) ?_ 0 _ rfl; (with_reducible repeat (first | refine bn_ ?_ _ | refine bw_ ?_ | refine ba_ ?_ _)); exact BK239.out) hb); replace HB := mk_ (below_step (us_ HB.out) hb); obtain ⟨_, _, _, _⟩ := cells2_ BK239.out) | (go_at_call 51; (with_reducible refine (impl_stationAt.calls _ _ l0 ((rd_T34 l0 x7_1).f0) t241 _ ?side1 ?side2 A7.out).mono ?_); (case side1 => repeat (first | exact (Kd.C_below HR0.out HB.out) | (with_reducible refine Kd.C_alloc ?_ _) | (with_reducible refine Kd.C_drewN ?_ _) | (with_reducible refine Kd.C_drew ?_))); (case side2 => exact HC0.out); rintro e w18120 ⟨rfl, hb⟩; replace BK239 := mk_ (blk_below (u_ BK239.out) hb); replace HB := mk_ (below_step (us_ HB.out) hb)))
   iterate 3
    focus
     go_ret
    rotate_left
   rotate_right 3
   ·exact ⟨by first | rfl | (simp [errW_none, errW_some] <;> rfl) | (simp [*, errW_none, errW_some] <;> rfl), by repeat (first | (with_reducible first | exact HB.out | apply na_ | apply nn_ | apply nw_) | exact HB.out)⟩
   iterate 2
    focus
     exact ⟨by first | rfl | (simp [errW_none, errW_some] <;> rfl) | (simp [*, errW_none, errW_some] <;> rfl), us_ HB.out⟩
   ·go_roundg k1
    case measure => have := HK1.out; omega
    case rel => exact ⟨(wrap64 (x7_1 + 1)), (by first | rfl | (simp; done) | (simp [*]; done)), H', ⟨by have := HK1.out; omega⟩, ⟨us_ HB.out⟩⟩

-- impl_Route_1: see the function that ranges over it

-- impl_Route: see the function that ranges over it

/-! ### impl_Route_fits: function 93 -/
def impl_Route_fits.f (a0_0 : Int) (a0_1 : Int) (a0_2 : Int) (a0_3 : Int) (a1 : Int) : Option (Bool) := if 0 ≤ (wrap64 (16 - a0_1)) then (some ((shr .i64 a1 (wrap64 (16 - a0_1))) == (shr .i64 a0_0 (wrap64 (16 - a0_1))))) else (none)
set_option maxHeartbeats 8000000 in
set_option maxRecDepth 100000 in
theorem impl_Route_fits.calls (a0_0 : Int) (a0_1 : Int) (a0_2 : Int) (a0_3 : Int) (a1 : Int) (r : Bool) (w : World) (h : impl_Route_fits.f a0_0 a0_1 a0_2 a0_3 a1 = some r) :
  Calls Try.prog 93 #[.agg #[.int .i64 a0_0, .int .i64 a0_1, .int .i64 a0_2, .int .i64 a0_3], .int .i64 a1] w fun e w' => e = .returned (.bool r) ∧ Below w.heap.size w w' := by
 have hu29 := Try.underlying29
 have HB := mk_ (Below.refl w.heap.size w)
 have H := h
 unfold impl_Route_fits.f at H
 clear h
 obtain ⟨ji3, hji3⟩ : ∃ j_ : Int, (wrap64 (16 - a0_1)) = j_ := ⟨_, rfl⟩
 replace H : (if 0 ≤ (ji3) then (some ((shr .i64 a1 (ji3)) == (shr .i64 a0_0 (ji3)))) else (none)) = some r := by first | (rw [hji3] at H; exact H) | (simp only [hji3] at H ⊢; exact H)
 have hji3w : (IntKind.i64.wrap (16 - a0_1)) = ji3 := (i64_w _).trans hji3
 by_cases c4 : 0 ≤ (ji3)
 rotate_left
 ·rw [if_neg c4] at H
  exact absurd H (by simp)
 rw [if_pos c4] at H
 have c4b0 := eq_true c4
 have c4b1 : decide (0 ≤ (ji3)) = true := decide_eq_true c4
 clear c4
 obtain ⟨ji5, hji5⟩ : ∃ j_ : Int, (shr .i64 a1 (ji3)) = j_ := ⟨_, rfl⟩
 replace H : (some ((ji5) == (shr .i64 a0_0 (ji3)))) = some r := by first | (rw [hji5] at H; exact H) | (simp only [hji5] at H ⊢; exact H)
 have hji5_ : (a1 / 2 ^ min (ji3).toNat 64) = ji5 := hji5
 have hji5z : (ji3) ≤ 64 → (a1 / 2 ^ (ji3).toNat) = ji5 := shr_small hji5
 have c6b0 := eq_true (of_decide_eq_true (by first | (with_reducible assumption) | assumption) : 0 ≤ (ji3))
 obtain ⟨ji7, hji7⟩ : ∃ j_ : Int, (shr .i64 a0_0 (ji3)) = j_ := ⟨_, rfl⟩
 replace H : (some ((ji5) == (ji7))) = some r := by first | (rw [hji7] at H; exact H) | (simp only [hji7] at H ⊢; exact H)
 have hji7_ : (a0_0 / 2 ^ min (ji3).toNat 64) = ji7 := hji7
 have hji7z : (ji3) ≤ 64 → (a0_0 / 2 ^ (ji3).toNat) = ji7 := shr_small hji7
 obtain rfl := Option.some.inj H
 go_enter Try.func93, Try.ntmps93
 go_wp2_with (first | ((with_reducible refine gate_dst (N := 2) rfl ?_); refine box_event ?hg (N := 2) ?hd (cs := #[.int .i64 a0_0, .int .i64 a0_1, .int .i64 a0_2, .int .i64 a0_3]) (t := 29) ?hr ?_; (case hd => rfl); (case hg => rfl); (case hr => first | (go_simp; done) | (go_simp; rfl)); intro gb242 hg w8 hbox hb; have n0_ := mk_ (below_step (ub_ HB.out) hb); have BK242 := mk_ (hbox); have GW242 := mk_ ((by rw [hg]; exact (below_size (ub_ HB.out)) : w.heap.size ≤ gb242)); have GE242 := ge_ ((by rw [hg]; exact (below_size (ub_ HB.out)) : w.heap.size ≤ gb242)); replace HB := n0_; clear n0_; clear hb hbox hg; obtain ⟨hcz9_0, hcz9_1, hcz9_2, hcz9_3, hfz9_0, hfz9_1, hfz9_2, hfz9_3⟩ := cells4_ BK242.out))
 repeat (go_quiet (first | ((with_reducible refine gate_dst (N := 2) rfl ?_); refine box_event ?hg (N := 2) ?hd (cs := #[.int .i64 a0_0, .int .i64 a0_1, .int .i64 a0_2, .int .i64 a0_3]) (t := 29) ?hr ?_; (case hd => rfl); (case hg => rfl); (case hr => first | (go_simp; done) | (go_simp; rfl)); intro gb242 hg w8 hbox hb; have n0_ := mk_ (below_step (ub_ HB.out) hb); have BK242 := mk_ (hbox); have GW242 := mk_ ((by rw [hg]; exact (below_size (ub_ HB.out)) : w.heap.size ≤ gb242)); have GE242 := ge_ ((by rw [hg]; exact (below_size (ub_ HB.out)) : w.heap.size ≤ gb242)); replace HB := n0_; clear n0_; clear hb hbox hg; obtain ⟨hcz9_0, hcz9_1, hcz9_2, hcz9_3, hfz9_0, hfz9_1, hfz9_2, hfz9_3⟩ := cells4_ BK242.out)); try go_wp2_with (first | ((with_reducible refine gate_dst (N := 2) rfl ?_); refine box_event ?hg (N := 2) ?hd (cs := #[.int .i64 a0_0, .int .i64 a0_1, .int .i64 a0_2, .int .i64 a0_3]) (t := 29) ?hr ?_; (case hd => rfl); (case hg => rfl); (case hr => first | (go_simp; done) | (go_simp; rfl)); intro gb242 hg w8 hbox hb; have n0_ := mk_ (below_step (ub_ HB.out) hb); have BK242 := mk_ (hbox); have GW242 := mk_ ((by rw [hg]; exact (below_size (ub_ HB.out)) : w.heap.size ≤ gb242)); have GE242 := ge_ ((by rw [hg]; exact (below_size (ub_ HB.out)) : w.heap.size ≤ gb242)); replace HB := n0_; clear n0_; clear hb hbox hg; obtain ⟨hcz9_0, hcz9_1, hcz9_2, hcz9_3, hfz9_0, hfz9_1, hfz9_2, hfz9_3⟩ := cells4_ BK242.out)))
 go_ret
 exact ⟨by first | rfl | (simp [errW_none, errW_some] <;> rfl) | (simp only [← hji3, ← hji5, ← hji7]; first | rfl | (simp [errW_none, errW_some] <;> rfl)) | (simp [*, errW_none, errW_some] <;> rfl), us_ HB.out⟩

/-! ### impl_routeTo: function 50 -/
namespace RouteTo_
open Go.Shelf
attribute [local go_sem] Oper.semAt_some
theorem rt_desc (L k : Nat) (h : k < L) : (List.finRange L).reverse.take (k + 1) = (List.finRange L).reverse.take k ++ [⟨L - 1 - k, by omega⟩] := by
  rw [List.take_succ_eq_append_getElem (by simpa using h)]
  simp [List.getElem_reverse]
/-- The first k places, from the last one down. -/
def rt_bk (L k : Nat) : List (Fin L) := (List.finRange L).reverse.take k
theorem rt_bk_len (L k : Nat) (h : k ≤ L) : (rt_bk L k).length = k := by simp [rt_bk]; omega
theorem rt_bk_succ (L k : Nat) (h : k < L) : rt_bk L (k + 1) = rt_bk L k ++ [⟨L - 1 - k, by omega⟩] := rt_desc L k h
def rt_agg (x : S29) : Value := .agg #[.int .i64 x.f0, .int .i64 x.f1, .int .i64 x.f2, .int .i64 x.f3]
def rt_enc (l : List S29) (x : Fin l.length) : Array Value := #[.int .i64 (x.1 : Nat), rt_agg (rd_T29 l (x.1 : Nat))]
/-- What a round keeps: the iterator's cell, and whatever lay below. -/
def rt_Kq (Bs n₀ : Nat) (A B : World) : Prop := (∀ v, A.cell? ⟨Bs, 0, none⟩ = some v → B.cell? ⟨Bs, 0, none⟩ = some v) ∧ Below n₀ A B
theorem rt_Kq_t {Bs n₀ : Nat} {A B C : World} (h : rt_Kq Bs n₀ A B) (k : rt_Kq Bs n₀ B C) : rt_Kq Bs n₀ A C := ⟨fun v x => k.1 v (h.1 v x), h.2.trans k.2⟩
theorem rt_Kq_b {Bs n₀ B : Nat} (hB : n₀ ≤ B) (W : World) (l : Nat) (o o' : Obj) (hl : B ≤ l) (h1 : W.heap[l]? = some o) (h2 : o.isCells = false) (h3 : o.isWalk = false) : rt_Kq Bs n₀ W (W.putObj l o') :=
  ⟨fun v h => cell_kept h (grownBy_putObj' W l o') (fun r e => by cases e; exact ⟨o, h1, h2⟩), ⟨rfl, rfl, rfl, by simp, fun i hi => World.putObj_heap_other (by omega)⟩⟩
set_option maxRecDepth 100000 in
set_option maxHeartbeats 4000000 in
theorem rt_iter_in (F : Fence) (n : Nat) (hF : F.fn 122) (hro : F.round = none) (hn : 1 ≤ n) (l Bs : Nat) (A0 : Option Addr) (c0 : Nat) (l0 : List S29) (w : World) (hr0 : Kd.C k29 w A0 l0.length l0) (hreach : l0.length ≤ 140737488355328)
    (J Jx : List (Fin l0.length) → World → Prop)
    (hY : ∀ pre x W, J pre W → pre.length < l0.length → YieldAt F (n - 1) Try.prog l (rt_enc l0 x) W fun e W' =>
      (e = .returned (.bool true) ∧ J (pre ++ [x]) W' ∧ rt_Kq Bs w.heap.size W W') ∨ (e = .returned (.bool false) ∧ Jx (pre ++ [x]) W'))
    (W : World) (hW : Below w.heap.size w W) (hBs : W.cell? ⟨Bs, 0, none⟩ = some (.slice A0 l0.length c0)) (h0 : J [] W) :
    CallsIn F n Try.prog 122 #[.func (.yield l) #[] #[], .pointer (some ⟨Bs, 0, none⟩)] W fun e W' => (∃ v, e = .returned v) ∧
      ((∃ ys, ys = rt_bk l0.length l0.length ∧ J ys W') ∨ (∃ pre, (∃ k, k < l0.length ∧ pre = rt_bk l0.length (k + 1)) ∧ Jx pre W')) := by
  have hw1 : wrap64 ((l0.length : Int) - 1) = (l0.length : Int) - 1 := by unfold wrap64; omega
  refine callsIn_of_wp Try.func122 rfl hF ?_ hro
  simp only [Try.ntmps122, List.size_toArray, List.length_cons, List.length_nil, Nat.reduceAdd, Nat.reduceSub, Array.replicate_succ, Array.replicate_zero, List.push_toArray, List.append_toArray, List.nil_append, List.cons_append]
  gi_wp2
  gi_loopw [3] (fun i wr => ∃ (k : Nat) (z : Int), k ≤ l0.length ∧ i = .int .i64 z ∧ z = (l0.length : Int) - 1 - k ∧ J (rt_bk l0.length k) wr ∧ rt_Kq Bs w.heap.size W wr)
    (fun i _ => (intOf i + 1).toNat)
  case atStart => exact ⟨0, _, Nat.zero_le _, rfl, by first | omega | (simp only [i64_w]; omega), h0, fun v h => h, Below.refl _ _⟩
  case round =>
    obtain ⟨k, z, hk, rfl, hz, hJs, hk1, hk3⟩ := hrel
    have c1 := hk1 _ hBs
    by_cases hlt : k < l0.length
    · obtain rfl : z = ((l0.length - 1 - k : Nat) : Int) := by omega
      obtain ⟨q, hq⟩ : ∃ q, q = l0.length - 1 - k := ⟨_, rfl⟩
      have hqL : q < l0.length := by omega
      obtain ⟨fn, tmps, assign, body, hy, hR⟩ := hY _ ⟨q, hqL⟩ wr hJs (by rw [rt_bk_len _ _ hk]; exact hlt)
      obtain ⟨ad, e, hx0, hx1, hx2, hx3⟩ := at_T29 hr0 (q : Int) (by omega) (by omega)
      cases e
      have hWB := hW.trans hk3
      replace hx0 := (hWB.cell (World.block_lt_of_cell? _ _ hx0)).trans hx0
      replace hx1 := (hWB.cell (World.block_lt_of_cell? _ _ hx1)).trans hx1
      replace hx2 := (hWB.cell (World.block_lt_of_cell? _ _ hx2)).trans hx2
      replace hx3 := (hWB.cell (World.block_lt_of_cell? _ _ hx3)).trans hx3
      rw [Int.toNat_natCast] at hx0 hx1 hx2 hx3
      simp only [rt_enc, rt_agg] at hy
      rw [← hq] at hz ⊢
      have p0 : (0 : Int) ≤ (q : Int) := by omega
      have p1 : (q : Int) < (l0.length : Int) := by omega
      have HQ := mk_ hq
      have HZ := mk_ hz
      clear hq hz
      gi_wp2
      refine hR.mono ?_
      rintro e W3 (⟨rfl, hJ3, hk4, hk6⟩ | ⟨rfl, hJx3⟩)
      · gi_wp2
        go_roundw
        case rel => exact ⟨k + 1, _, by omega, rfl, by have hq := HQ.out; first | omega | (unfold wrap64; omega) | (rw [i64_w]; unfold wrap64; omega), by rw [rt_bk_succ _ _ hlt]; have hq := HQ.out; subst hq; exact hJ3, fun v h => hk4 v (hk1 v h), hk3.trans hk6⟩
        case measure => have hq := HQ.out; first | (simp [intOf]; done) | (simp [intOf]; omega)
      · gi_wp2
        refine bodyPost_ret (results_none rfl _ _ _) rfl ?_
        exact ⟨⟨_, rfl⟩, .inr ⟨_, ⟨k, hlt, rfl⟩, by rw [rt_bk_succ _ _ hlt]; have hq := HQ.out; subst hq; exact hJx3⟩⟩
    · obtain rfl : k = l0.length := by omega
      obtain rfl : z = -1 := by omega
      gi_wp2
      go_end0
      exact ⟨⟨_, rfl⟩, .inl ⟨_, rfl, hJs⟩⟩
theorem rt_stops (F : Fence) (n : Nat) (hF : F.fn 122) (hro : F.round = none) (hn : 1 ≤ n) (Bs : Nat) (A0 : Option Addr) (c0 : Nat) (l0 : List S29) (w : World) (hr0 : Kd.C k29 w A0 l0.length l0) (hreach : l0.length ≤ 140737488355328) (w1 : World) (hw : Below w.heap.size w w1) (hs : Bs < w1.heap.size)
    (h1 : w1.cell? ⟨Bs, 0, none⟩ = some (.slice A0 l0.length c0)) :
    SeqStopsK F n Try.prog 122 #[.pointer (some ⟨Bs, 0, none⟩)] (rt_enc l0) (rt_Kq Bs w.heap.size) (fun ys => ys = rt_bk l0.length l0.length) (fun pre => ∃ k, k < l0.length ∧ pre = rt_bk l0.length (k + 1)) l0.length w1 := fun l J Jx W hW hJ _ hY h0 =>
  rt_iter_in F n hF hro hn l Bs A0 c0 l0 w hr0 hreach J Jx hY W (hw.trans (hW.mono hw.size)) ((hW.cell (p := ⟨Bs, 0, none⟩) hs).trans h1) h0
set_option maxRecDepth 100000 in
set_option maxHeartbeats 1000000 in
theorem rt_back_in (F : Fence) (n : Nat) (hF : F.fn 92) (hro : F.round = none) (A0 : Option Addr) (L c0 : Nat) (w : World) :
    CallsIn F n Try.prog 92 #[.slice A0 L c0] w fun e w' => e = .returned (.func (.func 122) #[] #[.pointer (some ⟨w.heap.size, 0, none⟩)]) ∧ w' = w.alloc (.cells #[.slice A0 L c0] 32) := by
  have hmf : ∀ (fn : Fn) (first cap : Array Value) (w : World), (Instr.makeFunc fn first cap).run Try.prog w = .ok (.func fn first cap) w := fun _ _ _ _ => rfl
  refine callsIn_of_wp Try.func92 rfl hF ?_ hro
  simp only [Try.ntmps92, List.size_toArray, List.length_cons, List.length_nil, Nat.reduceAdd, Nat.reduceSub, Array.replicate_succ, Array.replicate_zero, List.push_toArray, List.append_toArray, List.nil_append, List.cons_append]
  gi_wp2
  go_ret
  exact ⟨rfl, rfl⟩
section
variable {P : Program}
theorem rt_loadVar1 (w : World) (g : Nat) (ty : TypeId) (v : Value) (d : TypeDesc) (hc : w.cell? ⟨g, 0, none⟩ = some v) (hu : P.underlying ty = some d) (hd : (match d with | .struct _ | .array _ _ => true | _ => false) = false) :
    (loadVar ty ⟨g, 0, none⟩).run P w = .ok v w := by
  have hagg : (isAgg ty).run P w = .ok false w := by
    unfold isAgg
    rw [Sem.run_bind, run_underlying hu w]
    cases d <;> simp_all
  simp [loadVar, Sem.run_bind, hagg, hc]
theorem rt_results {fn : Func} {p p' : Tmp} {ty ty' : TypeId} (h : fn.results = #[.cell p ty, .cell p' ty']) (tmps : Array Value) (w : World) (g g' : Nat) (t : TypeId) (cs : Array Value) (fr : Nat × Nat) (d d' : TypeDesc) (v : Value)
    (hp : tmps.getD p undef = .pointer (some ⟨g, 0, none⟩)) (hg : w.heap[g]? = some (.cells cs t fr))
    (hu : P.underlying ty = some d) (hd : (match d with | .struct _ | .array _ _ => true | _ => false) = true) (hi : (P.info? ty).map (·.size) = some cs.size)
    (hp' : tmps.getD p' undef = .pointer (some ⟨g', 0, none⟩)) (hc' : w.cell? ⟨g', 0, none⟩ = some v)
    (hu' : P.underlying ty' = some d') (hd' : (match d' with | .struct _ | .array _ _ => true | _ => false) = false) :
    (results fn tmps).run P w = .ok (.tuple #[.agg cs, v]) w := by
  have h1 : tmps[p]?.getD undef = .pointer (some ⟨g, 0, none⟩) := by simpa using hp
  have h2 : tmps[p']?.getD undef = .pointer (some ⟨g', 0, none⟩) := by simpa using hp'
  simp [results, h, h1, h2, asAddr, run_loadVar_row w g t ty cs fr d hg hu hd hi, rt_loadVar1 w g' ty' v d' hc' hu' hd']
end
/-- Does a route serve? -/
def rt_hit (a b : Int) (x : S29) : Bool := decide (x.f1 < b) && (impl_Route_fits.f x.f0 x.f1 x.f2 x.f3 a == some true)
def rt_ok (a b : Int) (x : S29) : Bool := !decide (x.f1 < b) || (impl_Route_fits.f x.f0 x.f1 x.f2 x.f3 a).isSome
def rt_find (a b : Int) (l : List S29) : Nat → S29 × Bool
  | 0 => (z29, false)
  | k + 1 => if rt_hit a b (rd_T29 l (k : Nat)) = true then (rd_T29 l (k : Nat), true) else rt_find a b l k
theorem rt_find_none (a b : Int) (l : List S29) : ∀ k, k ≤ l.length → (∀ y ∈ rt_bk l.length k, rt_hit a b (rd_T29 l (y.1 : Nat)) = false) → rt_find a b l l.length = rt_find a b l (l.length - k)
  | 0, _, _ => rfl
  | k + 1, hk, h => by
    rw [rt_bk_succ _ _ (by omega)] at h
    rw [rt_find_none a b l k (by omega) (fun y hy => h y (List.mem_append_left _ hy))]
    have h2 := h ⟨l.length - 1 - k, by omega⟩ (by simp)
    rw [show l.length - k = (l.length - 1 - k) + 1 by omega, rt_find, show l.length - (k + 1) = l.length - 1 - k by omega, if_neg (by rw [h2]; decide)]
theorem rt_find_some (a b : Int) (l : List S29) (k : Nat) (hk : k < l.length) (ys : List (Fin l.length)) (x : Fin l.length) (e : rt_bk l.length (k + 1) = ys ++ [x]) (h : ∀ y ∈ ys, rt_hit a b (rd_T29 l (y.1 : Nat)) = false) (hx : rt_hit a b (rd_T29 l (x.1 : Nat)) = true) :
    rt_find a b l l.length = (rd_T29 l (x.1 : Nat), true) := by
  rw [rt_bk_succ _ _ hk] at e
  obtain ⟨e1, e2⟩ := List.append_inj' e rfl
  obtain rfl : x = ⟨l.length - 1 - k, by omega⟩ := by simpa using e2.symm
  rw [rt_find_none a b l k (by omega) (by rw [e1]; exact h), show l.length - k = (l.length - 1 - k) + 1 by omega, rt_find, if_pos hx]
theorem rt_blk_own {β : Type} (B : Nat) (t : TypeId) (f : β → Array Value) : Own (fun s W => W.heap[B]? = some (.cells (f s) t (0, 0))) := fun s X Y row hs hg hrow =>
  (hg.block B (Array.getElem?_eq_some_iff.1 hs).1 (fun e' => by obtain ⟨o, ho, hc⟩ := hrow B e'.symm; rw [show X.heap[B]? = _ from hs] at ho; cases ho; cases hc)).trans hs
theorem rt_stores (W : World) (B2 B3 : Nat) (hne : B2 ≠ B3) {t t' : TypeId} {u0 u1 u2 u3 u4 : Value} (v0 v1 v2 v3 v4 : Value) (h2 : W.heap[B2]? = some (.cells #[u0, u1, u2, u3] t (0, 0))) (h3 : Boxed W B3 t' u4) :
    (((((W.setCell ⟨B2, 0, none⟩ v0).setCell ⟨B2, 1, none⟩ v1).setCell ⟨B2, 2, none⟩ v2).setCell ⟨B2, 3, none⟩ v3).setCell ⟨B3, 0, none⟩ v4).heap[B2]? = some (.cells #[v0, v1, v2, v3] t (0, 0)) ∧
    Boxed (((((W.setCell ⟨B2, 0, none⟩ v0).setCell ⟨B2, 1, none⟩ v1).setCell ⟨B2, 2, none⟩ v2).setCell ⟨B2, 3, none⟩ v3).setCell ⟨B3, 0, none⟩ v4) B3 t' v4 ∧
    KeepsOthers W (((((W.setCell ⟨B2, 0, none⟩ v0).setCell ⟨B2, 1, none⟩ v1).setCell ⟨B2, 2, none⟩ v2).setCell ⟨B2, 3, none⟩ v3).setCell ⟨B3, 0, none⟩ v4) := by
  have a0 := blk_put (cs' := #[v0, u1, u2, u3]) h2 0 v0 rfl
  have a1 := blk_put (cs' := #[v0, v1, u2, u3]) a0 1 v1 rfl
  have a2 := blk_put (cs' := #[v0, v1, v2, u3]) a1 2 v2 rfl
  have a3 := blk_put (cs' := #[v0, v1, v2, v3]) a2 3 v3 rfl
  have c0 := blk_far (p := ⟨B2, 0, none⟩) h3 (Ne.symm hne) v0
  have c1 := blk_far (p := ⟨B2, 1, none⟩) c0 (Ne.symm hne) v1
  have c2 := blk_far (p := ⟨B2, 2, none⟩) c1 (Ne.symm hne) v2
  have c3 : Boxed _ B3 t' u4 := blk_far (p := ⟨B2, 3, none⟩) c2 (Ne.symm hne) v3
  exact ⟨blk_far (p := ⟨B3, 0, none⟩) a3 hne v4, c3.set v4, ((((KeepsOthers.setCell _ _ _).trans (KeepsOthers.setCell _ _ _)).trans (KeepsOthers.setCell _ _ _)).trans (KeepsOthers.setCell _ _ _)).trans (KeepsOthers.setCell _ _ _)⟩
theorem rt_below_stores {n₀ : Nat} {w W : World} (h : Below n₀ w W) (B2 B3 : Nat) (h2 : n₀ ≤ B2) (h3 : n₀ ≤ B3) (v0 v1 v2 v3 v4 : Value) :
    Below n₀ w (((((W.setCell ⟨B2, 0, none⟩ v0).setCell ⟨B2, 1, none⟩ v1).setCell ⟨B2, 2, none⟩ v2).setCell ⟨B2, 3, none⟩ v3).setCell ⟨B3, 0, none⟩ v4) :=
  ((((h.setCell (p := ⟨B2, 0, none⟩) h2 _).setCell (p := ⟨B2, 1, none⟩) h2 _).setCell (p := ⟨B2, 2, none⟩) h2 _).setCell (p := ⟨B2, 3, none⟩) h2 _).setCell (p := ⟨B3, 0, none⟩) h3 _
theorem rt_keeps {W w1 : World} (h : Below W.heap.size W w1) : KeepsOthers W w1 := ⟨h.size, fun k o hk _ => (h.block k (Array.getElem?_eq_some_iff.1 hk).1).trans hk⟩
theorem rt_close (W : World) (D B2 B3 : Nat) (tmps : Array Value) (x : S29) (bv : Bool) (n2 : B2 ≠ D) (n3 : B3 ≠ D) (e1 : W.heap[B2]? = some (.cells #[.int .i64 x.f0, .int .i64 x.f1, .int .i64 x.f2, .int .i64 x.f3] 29 (0, 0))) (e2 : Boxed W B3 4 (.bool bv))
    (h6 : tmps.getD 6 undef = .pointer (some ⟨B2, 0, none⟩)) (h7 : tmps.getD 7 undef = .pointer (some ⟨B3, 0, none⟩)) :
    (results Try.f50 tmps).run Try.prog (W.putObj D (.deferred none)) = .ok (.tuple #[rt_agg x, .bool bv]) (W.putObj D (.deferred none)) := by
  have g1 : (W.putObj D (.deferred none)).heap[B2]? = some (.cells #[.int .i64 x.f0, .int .i64 x.f1, .int .i64 x.f2, .int .i64 x.f3] 29 (0, 0)) :=
    ((grownBy_putObj' W D (.deferred none)).block B2 (Array.getElem?_eq_some_iff.1 e1).1 (by simpa using n2)).trans e1
  have g2 : Boxed (W.putObj D (.deferred none)) B3 4 (.bool bv) := e2.kept (grownBy_putObj' W D (.deferred none)) (by simpa using n3)
  exact rt_results (p := 6) (p' := 7) (ty := 29) (ty' := 4) rfl tmps _ B2 B3 29 _ (0, 0) _ _ _ h6 g1 Try.underlying29 rfl (by kernel_rfl) h7 g2.cell Try.underlying4 rfl
set_option maxRecDepth 100000 in
set_option maxHeartbeats 4000000 in
theorem rt_in (A0 : Option Addr) (c0 : Nat) (l0 : List S29) (a b : Int) (w : World) (hr0 : Kd.C k29 w A0 l0.length l0) (hreach : l0.length ≤ 140737488355328) (hok : ∀ x : Fin l0.length, rt_ok a b (rd_T29 l0 (x.1 : Nat)) = true) :
    CallsIn Fence.wide 5 Try.prog 50 #[.slice A0 l0.length c0, .int .i64 a, .int .i64 b] w fun e W' => e = .returned (.tuple #[rt_agg (rt_find a b l0 l0.length).1, .bool (rt_find a b l0 l0.length).2]) ∧ Below w.heap.size w W' := by
  have hu51 := Try.underlying29
  refine callsIn_of_wp_marks Try.func50 rfl trivial ?_ rfl
  simp only [Try.ntmps50, List.size_toArray, List.length_cons, List.length_nil, Nat.reduceAdd, Nat.reduceSub, Array.replicate_succ, Array.replicate_zero, List.push_toArray, List.append_toArray, List.nil_append, List.cons_append]
  gi_wp2_with (refine ⟨trivial, ?_⟩; gi_at_call 92; refine (rt_back_in Fence.wide 4 trivial rfl _ _ _ _).mono ?_; rintro e w' ⟨rfl, rfl⟩)
  have b0 := Boxed.new w 3 (.int .i64 a)
  have b1 := Boxed.new (w.alloc (.cells #[.int .i64 a] 3)) 3 (.int .i64 b)
  have b2 := World.alloc_heap_new ((w.alloc (.cells #[.int .i64 a] 3)).alloc (.cells #[.int .i64 b] 3)) (.cells #[.int .i64 0, .int .i64 0, .int .i64 0, .int .i64 0] 29 (0, 0))
  have b3 := Boxed.new (((w.alloc (.cells #[.int .i64 a] 3)).alloc (.cells #[.int .i64 b] 3)).alloc (.cells #[.int .i64 0, .int .i64 0, .int .i64 0, .int .i64 0] 29 (0, 0))) 4 (.bool false)
  have b4 := Boxed.new ((((w.alloc (.cells #[.int .i64 a] 3)).alloc (.cells #[.int .i64 b] 3)).alloc (.cells #[.int .i64 0, .int .i64 0, .int .i64 0, .int .i64 0] 29 (0, 0))).alloc (.cells #[.bool false] 4)) 32 (.slice A0 l0.length c0)
  simp only [World.size_alloc] at b1 b2 b3 b4
  have hB0 : Below w.heap.size w (((((w.alloc (.cells #[.int .i64 a] 3)).alloc (.cells #[.int .i64 b] 3)).alloc (.cells #[.int .i64 0, .int .i64 0, .int .i64 0, .int .i64 0] 29 (0, 0))).alloc (.cells #[.bool false] 4)).alloc (.cells #[.slice A0 l0.length c0] 32)) :=
    (((((Below.refl _ w).alloc (Nat.le_refl _) _).alloc (by simp) _).alloc (by simp; omega) _).alloc (by simp; omega) _).alloc (by simp; omega) _
  replace b0 := (((b0.alloc (.cells #[.int .i64 b] 3)).alloc (.cells #[.int .i64 0, .int .i64 0, .int .i64 0, .int .i64 0] 29 (0, 0))).alloc (.cells #[.bool false] 4)).alloc (.cells #[.slice A0 l0.length c0] 32)
  replace b1 := ((b1.alloc (.cells #[.int .i64 0, .int .i64 0, .int .i64 0, .int .i64 0] 29 (0, 0))).alloc (.cells #[.bool false] 4)).alloc (.cells #[.slice A0 l0.length c0] 32)
  replace b2 := blk_alloc (blk_alloc b2 (.cells #[.bool false] 4)) (.cells #[.slice A0 l0.length c0] 32)
  replace b3 := b3.alloc (.cells #[.slice A0 l0.length c0] 32)
  obtain ⟨W0, hW0⟩ : ∃ W0, (((((w.alloc (.cells #[.int .i64 a] 3)).alloc (.cells #[.int .i64 b] 3)).alloc (.cells #[.int .i64 0, .int .i64 0, .int .i64 0, .int .i64 0] 29 (0, 0))).alloc (.cells #[.bool false] 4)).alloc (.cells #[.slice A0 l0.length c0] 32)) = W0 := ⟨_, rfl⟩
  have hsz : W0.heap.size = w.heap.size + 5 := by rw [← hW0]; simp
  rw [hW0] at b0 b1 b2 b3 b4 hB0 ⊢
  clear hW0
  refine wpIn_rangeFunc_ownH rfl (by decide : 1 ≤ 5) (gf := 122) (lb := #[.pointer (some ⟨w.heap.size + 1 + 1 + 1 + 1, 0, none⟩)]) rfl trivial (enters_of Try.func122 (by kernel_rfl) rfl)
    (rt_stops Fence.wide 4 trivial rfl (by omega) (w.heap.size + 1 + 1 + 1 + 1) A0 c0 l0 w hr0 hreach W0 hB0 (by omega) b4.cell) rt_Kq_t (rt_Kq_b (by omega)) (Below.refl _ _) (fun _ => rfl)
    (fun pre W => ((Boxed W w.heap.size 3 (.int .i64 a) ∧ Boxed W (w.heap.size + 1) 3 (.int .i64 b)) ∧ (W.heap[w.heap.size + 1 + 1]? = some (.cells #[.int .i64 0, .int .i64 0, .int .i64 0, .int .i64 0] 29 (0, 0)) ∧ Boxed W (w.heap.size + 1 + 1 + 1) 4 (.bool false))) ∧ ((∀ y ∈ pre, rt_hit a b (rd_T29 l0 (y.1 : Nat)) = false) ∧ Below w.heap.size w W))
    (fun c pre W => (∃ ys x, (c = .ret ∧ pre = ys ++ [x] ∧ (∀ y ∈ ys, rt_hit a b (rd_T29 l0 (y.1 : Nat)) = false) ∧ rt_hit a b (rd_T29 l0 (x.1 : Nat)) = true) ∧ (W.heap[w.heap.size + 1 + 1]? = some (.cells #[.int .i64 (rd_T29 l0 (x.1 : Nat)).f0, .int .i64 (rd_T29 l0 (x.1 : Nat)).f1, .int .i64 (rd_T29 l0 (x.1 : Nat)).f2, .int .i64 (rd_T29 l0 (x.1 : Nat)).f3] 29 (0, 0)) ∧ Boxed W (w.heap.size + 1 + 1 + 1) 4 (.bool true))) ∧ Below w.heap.size w W)
    (OwnFrom.and (OwnFrom.and (OwnFrom.and (Own.from (boxed_own _ _ _) _) (Own.from (boxed_own _ _ _) _)) (OwnFrom.and (Own.from (rt_blk_own _ _ _) _) (Own.from (boxed_own _ _ _) _))) (OwnFrom.and (ownFrom_pure _ _) (ownFrom_below (Nat.le_refl _) (by omega))))
    (fun c => OwnFrom.and (fun pre X Y row hs hg hr => by obtain ⟨ys, x, hp, h1, h2⟩ := hs; exact ⟨ys, x, hp, rt_blk_own _ _ (fun (_ : Unit) => _) () X Y row h1 hg (fun r e => (hr r e).2), boxed_own _ _ (fun (_ : Unit) => _) () X Y row h2 hg (fun r e => (hr r e).2)⟩) (ownFrom_below (Nat.le_refl _) (by omega)))
    ⟨⟨⟨b0, b1⟩, ⟨b2, b3⟩⟩, (fun y hy => absurd hy (by simp)), hB0⟩
    (fun x a' W => ∃ Bx, w.heap.size + 1 + 1 + 1 < Bx ∧ W.heap[Bx]? = some (.cells #[.int .i64 (rd_T29 l0 (x.1 : Nat)).f0, .int .i64 (rd_T29 l0 (x.1 : Nat)).f1, .int .i64 (rd_T29 l0 (x.1 : Nat)).f2, .int .i64 (rd_T29 l0 (x.1 : Nat)).f3] 29 (0, 0)) ∧ a' = { tmps := #[.slice A0 l0.length c0, .int .i64 a, .int .i64 b, undef, .pointer (some ⟨w.heap.size, 0, none⟩), .pointer (some ⟨w.heap.size + 1, 0, none⟩), .pointer (some ⟨w.heap.size + 1 + 1, 0, none⟩), .pointer (some ⟨w.heap.size + 1 + 1 + 1, 0, none⟩), undef, .pointer (some ⟨Bx, 0, none⟩), .slice A0 l0.length c0, .func (.func 122) #[] #[.pointer (some ⟨w.heap.size + 1 + 1 + 1 + 1, 0, none⟩)], .int .i64 (x.1 : Nat), rt_agg (rd_T29 l0 (x.1 : Nat)), undef, undef, undef, undef, undef, undef, undef, undef, undef, undef, undef], defers := [] })
    (fun x a' _ X Y row hs hg hr => by obtain ⟨Bx, h1, h2, h3⟩ := hs; exact ⟨Bx, h1, rt_blk_own _ _ (fun (_ : Unit) => _) () X Y row h2 hg (fun r e => (hr r e).2), h3⟩)
    ?assign ?body ?done ?stop
  case assign =>
    rintro l pre x W K ⟨⟨⟨d0, d1⟩, ⟨d2, d3⟩⟩, hno, hB⟩ hK
    have hsW := hB.size
    simp only [rt_enc, rt_agg]
    gi_wp2
    exact hK _ _ ((KeepsOthers.alloc _ _).from _) ⟨fun v h => cell_kept h (World.grownBy_alloc W _ none) (fun r e => by cases e), (Below.refl _ W).alloc hsW _⟩ ⟨⟨⟨d0.alloc _, d1.alloc _⟩, ⟨blk_alloc d2 _, d3.alloc _⟩⟩, hno, hB.alloc hsW _⟩ ⟨W.heap.size, d3.lt, World.alloc_heap_new W _, rfl⟩
  case body =>
    rintro l pre x a' W hl ⟨r, hr⟩ ⟨⟨⟨d0, d1⟩, ⟨d2, d3⟩⟩, hno, hB⟩ ⟨Bx, hBx, bX, rfl⟩ hlt
    have hkx := hok x
    unfold rt_ok at hkx
    obtain ⟨y0, y1, y2, y3, hy0, hy1, hy2, hy3⟩ : ∃ y0 y1 y2 y3, y0 = (rd_T29 l0 (x.1 : Nat)).f0 ∧ y1 = (rd_T29 l0 (x.1 : Nat)).f1 ∧ y2 = (rd_T29 l0 (x.1 : Nat)).f2 ∧ y3 = (rd_T29 l0 (x.1 : Nat)).f3 := ⟨_, _, _, _, rfl, rfl, rfl, rfl⟩
    rw [← hy0, ← hy1, ← hy2, ← hy3] at bX
    rw [← hy0, ← hy1, ← hy2, ← hy3] at hkx
    have hh : rt_hit a b (rd_T29 l0 (x.1 : Nat)) = (decide (y1 < b) && (impl_Route_fits.f y0 y1 y2 y3 a == some true)) := by unfold rt_hit; rw [hy0, hy1, hy2, hy3]
    simp only [rt_agg, ← hy0, ← hy1, ← hy2, ← hy3]
    have HY := mk_ (And.intro hy0 (And.intro hy1 (And.intro hy2 hy3)))
    clear hy0 hy1 hy2 hy3
    have q0 := d0.cell
    have q1 := d1.cell
    have q2 := (blk_cell bX 0).trans rfl
    have q3 := (blk_cell bX 1).trans rfl
    have q4 := (blk_cell bX 2).trans rfl
    have q5 := (blk_cell bX 3).trans rfl
    have HN := mk_ hno
    have HH := mk_ hh
    clear hno hh
    by_cases hb : y1 < b
    · obtain ⟨t, ht⟩ : ∃ t, impl_Route_fits.f y0 y1 y2 y3 a = some t := by
        cases hft : impl_Route_fits.f y0 y1 y2 y3 a with
        | none => rw [hft] at hkx; simp [hb] at hkx
        | some t => exact ⟨t, rfl⟩
      have HT := mk_ ht
      clear hkx ht
      cases t with
      | true =>
        gi_wp2_with (refine ⟨trivial, ?_⟩; gi_at_call 93; refine (CallsIn.inRound l (callsIn_wide.2 (impl_Route_fits.calls _ _ _ _ _ true _ HT.out))).mono ?_; rintro e w1 ⟨rfl, hb1⟩; have HB1 := mk_ hb1; have bX1 := blk_below bX hb1; have g0 := (blk_cell bX1 0).trans rfl; have g1 := (blk_cell bX1 1).trans rfl; have g2 := (blk_cell bX1 2).trans rfl; have g3 := (blk_cell bX1 3).trans rfl; have d21 := blk_below d2 hb1; obtain ⟨k0, k1, k2, k3, m0, m1, m2, m3⟩ := cells4_ d21; have d31 : Boxed w1 (w.heap.size + 1 + 1 + 1) 4 (.bool false) := blk_below d3 hb1; have k4 := d31.cell; have m4 := d31.frozen; clear hb1)
        have hb1 := HB1.out
        obtain ⟨e1, e2, e3⟩ := rt_stores w1 (w.heap.size + 1 + 1) (w.heap.size + 1 + 1 + 1) (by omega) (.int .i64 y0) (.int .i64 y1) (.int .i64 y2) (.int .i64 y3) (.bool true) d21 d31
        obtain ⟨hy0, hy1, hy2, hy3⟩ := HY.out
        refine ⟨((rt_keeps hb1).trans e3).from _, ⟨pre, x, ⟨rfl, rfl, HN.out, by rw [HH.out, HT.out, decide_eq_true hb]; rfl⟩, ?_, e2⟩, rt_below_stores (hB.trans (hb1.mono hB.size)) _ _ (by omega) (by omega) _ _ _ _ _⟩
        rw [← hy0, ← hy1, ← hy2, ← hy3]
        exact e1
      | false =>
        gi_wp2_with (refine ⟨trivial, ?_⟩; gi_at_call 93; refine (CallsIn.inRound l (callsIn_wide.2 (impl_Route_fits.calls _ _ _ _ _ false _ HT.out))).mono ?_; rintro e w1 ⟨rfl, hb1⟩; have HB1 := mk_ hb1; clear hb1)
        have hb1 := HB1.out
        have hno' : rt_hit a b (rd_T29 l0 (x.1 : Nat)) = false := by rw [HH.out, HT.out, decide_eq_true hb]; rfl
        exact ⟨(rt_keeps hb1).from _, ⟨fun v h => (hb1.cell (World.block_lt_of_cell? _ _ h)).trans h, hb1.mono hB.size⟩, ⟨⟨blk_below d0 hb1, blk_below d1 hb1⟩, ⟨blk_below d2 hb1, blk_below d3 hb1⟩⟩, (fun y hy => by rcases List.mem_append.1 hy with h | h; exact HN.out y h; (obtain rfl : y = x := by simpa using h); exact hno'), hB.trans (hb1.mono hB.size)⟩
    · gi_wp2
      refine ⟨trivial, ?_⟩
      gi_wp2
      have hno' : rt_hit a b (rd_T29 l0 (x.1 : Nat)) = false := by rw [HH.out, decide_eq_false (by omega)]; rfl
      exact ⟨KeepsFrom.refl _ _, ⟨fun v h => h, Below.refl _ _⟩, ⟨⟨d0, d1⟩, ⟨d2, d3⟩⟩, (fun y hy => by rcases List.mem_append.1 hy with h | h; exact HN.out y h; (obtain rfl : y = x := by simpa using h); exact hno'), hB⟩
  case done =>
    rintro D ys W hD rfl ⟨⟨⟨d0, d1⟩, ⟨d2, d3⟩⟩, hno, hB⟩ hK
    obtain ⟨k0, k1, k2, k3, m0, m1, m2, m3⟩ := cells4_ d2
    have k4 := d3.cell
    have m4 := d3.frozen
    have HK := mk_ hK
    have HN := mk_ hno
    clear hK hno
    gi_wp2
    obtain ⟨e1, e2, e3⟩ := rt_stores W (w.heap.size + 1 + 1) (w.heap.size + 1 + 1 + 1) (by omega) (.int .i64 0) (.int .i64 0) (.int .i64 0) (.int .i64 0) (.bool false) d2 d3
    have hK' := e3.same D _ HK.out rfl
    have hfin := rt_find_none a b l0 l0.length (Nat.le_refl _) HN.out
    rw [Nat.sub_self] at hfin
    refine ⟨by simp, .inl ⟨_, _, rfl, run_takeDeferred hK', ?_⟩⟩
    exact ⟨_, rt_close _ D (w.heap.size + 1 + 1) (w.heap.size + 1 + 1 + 1) _ z29 false (by omega) (by omega) e1 e2 rfl rfl, by rw [hfin]; rfl, (rt_below_stores hB _ _ (by omega) (by omega) _ _ _ _ _).trans (belowK_b (w := w) (Nat.le_refl _) _ D _ _ (by omega) hK' rfl rfl)⟩
  case stop =>
    rintro D c pre W hD ⟨k, hk, rfl⟩ ⟨⟨ys, x, ⟨rfl, hp, hno, hx⟩, d2, d3⟩, hB⟩ hK
    have HK := mk_ hK
    have HN := mk_ hno
    have HX := mk_ hx
    have HP := mk_ hp
    clear hK hno hx hp
    gi_wp2
    have hfin := rt_find_some a b l0 k hk ys x HP.out HN.out HX.out
    have hK' := HK.out
    refine ⟨by simp, .inl ⟨_, _, rfl, run_takeDeferred hK', ?_⟩⟩
    exact ⟨_, rt_close _ D (w.heap.size + 1 + 1) (w.heap.size + 1 + 1 + 1) _ (rd_T29 l0 (x.1 : Nat)) true (by omega) (by omega) d2 d3 rfl rfl, by rw [hfin], hB.trans (belowK_b (w := w) (Nat.le_refl _) _ D _ _ (by omega) hK' rfl rfl)⟩
end RouteTo_
open RouteTo_ in
def impl_routeTo.f (l0 : List S29) (a1 : Int) (a2 : Int) : Option (Int × Int × Int × Int × Bool) := if l0.length ≤ 140737488355328 ∧ l0.all (rt_ok a1 a2) = true then some ((rt_find a1 a2 l0 l0.length).1.f0, (rt_find a1 a2 l0 l0.length).1.f1, (rt_find a1 a2 l0 l0.length).1.f2, (rt_find a1 a2 l0 l0.length).1.f3, (rt_find a1 a2 l0 l0.length).2) else none
open RouteTo_ in
theorem impl_routeTo.calls (A0 : Option Addr) (c0 : Nat) (l0 : List S29) (a1 : Int) (a2 : Int) (r1 : Int) (r2 : Int) (r3 : Int) (r4 : Int) (r5 : Bool) (w : World) (hr0 : Kd.C k29 w A0 l0.length l0) (hc0 : l0.length ≤ c0) (h : impl_routeTo.f l0 a1 a2 = some (r1, r2, r3, r4, r5)) :
    Calls Try.prog 50 #[.slice A0 l0.length c0, .int .i64 a1, .int .i64 a2] w fun e w' => e = .returned (.tuple #[.agg #[.int .i64 r1, .int .i64 r2, .int .i64 r3, .int .i64 r4], .bool r5]) ∧ Below w.heap.size w w' := by
 unfold impl_routeTo.f at h
 by_cases hlim : l0.length ≤ 140737488355328 ∧ l0.all (rt_ok a1 a2) = true
 ·rw [if_pos hlim] at h
  obtain ⟨e1, e2, e3, e4, e5⟩ : _ ∧ _ ∧ _ ∧ _ ∧ _ := by simpa only [Option.some.injEq, Prod.mk.injEq] using h
  have hok : ∀ x : Fin l0.length, rt_ok a1 a2 (rd_T29 l0 (x.1 : Nat)) = true := fun x => by
    have e : rd_T29 l0 ((x.1 : Nat) : Int) = l0[x.1] := by simp [rd_T29, List.getD_eq_getElem?_getD, List.getElem?_eq_getElem x.2]
    rw [e]
    exact List.all_eq_true.1 hlim.2 _ (List.getElem_mem x.2)
  have hc := (callsIn_wide (n := 5)).1 (rt_in A0 c0 l0 a1 a2 w hr0 hlim.1 hok)
  unfold rt_agg at hc
  rw [e1, e2, e3, e4, e5] at hc
  exact hc
 · rw [if_neg hlim] at h; cases h

/-! ### impl_PathRoom: function 11 -/
mutual
def impl_PathRoom.j0 : Nat → List (S34) → Int → Int → Bool → Option (Int)
 | 0, _, _, _, _ => none
 | k + 1, x0, x1, x2, x26 => if x26 = true then (some 0) else (impl_PathRoom.l0 k x0 x2 48 x1 (wrap64 ((x0.length : Int) + 1)) 0)
def impl_PathRoom.l0 : Nat → List (S34) → Int → Int → Int → Int → Int → Option (Int)
 | 0, _, _, _, _, _, _ => none
 | k + 1, x0, x2, x7, x8, x30, x31 => if x31 < x30 then (if x8 < 0 then (some 0) else (if 0 ≤ x8 then (if x8 < (x0.length : Int) then (if ((rd_T34 x0 x8).f0) = x2 then (some x7) else ((impl_routeTo.f ((rd_T34 x0 x8).f1) x2 17).bind fun bt248 => (if bt248.2.2.2.2 = true then ((impl_stationAt.f x0 bt248.2.2.1).bind fun t254 => (impl_PathRoom.l0 k x0 x2 (mn x7 bt248.2.2.2.1) t254 x30 (wrap64 (x31 + 1)))) else (some 0)))) else (none)) else (none))) else (some 0)
end
def impl_PathRoom.f (k : Nat) (l0 : List (S34)) (a1 : Int) (a2 : Int) : Option (Int) := (impl_NetOk.f k l0).bind fun t243 => (if t243 = true then ((impl_in.f a1 0 (wrap64 ((l0.length : Int) - 1))).bind fun t244 => (if t244 = true then ((impl_word.f a2).bind fun t245 => (impl_PathRoom.j0 k l0 a1 a2 (!t245))) else (impl_PathRoom.j0 k l0 a1 a2 true))) else (impl_PathRoom.j0 k l0 a1 a2 true))
theorem impl_PathRoom.mono_l : ∀ k, (∀ y0 y1 y2 y3, LeO (impl_PathRoom.j0 k y0 y1 y2 y3) (impl_PathRoom.j0 (k + 1) y0 y1 y2 y3)) ∧ (∀ y0 y1 y2 y3 y4 y5, LeO (impl_PathRoom.l0 k y0 y1 y2 y3 y4 y5) (impl_PathRoom.l0 (k + 1) y0 y1 y2 y3 y4 y5))
 | 0 => ⟨fun _ _ _ _ r h => by simp [impl_PathRoom.j0] at h, fun _ _ _ _ _ _ r h => by simp [impl_PathRoom.l0] at h⟩
 | k + 1 => by
  obtain ⟨ih0, ih1⟩ := impl_PathRoom.mono_l k
  refine ⟨?_, ?_⟩
  ·intro y0 y1 y2 y3
   unfold impl_PathRoom.j0
   repeat' first
   | (with_reducible exact ih0 _ _ _ _)
   | (with_reducible exact ih1 _ _ _ _ _ _)
   | (with_reducible exact impl_NetOk.mono _ _)
   | (with_reducible exact LeO.refl _)
   | (with_reducible exact LeO.none _)
   | (with_reducible refine LeO.ite ?_ ?_)
   | (with_reducible refine LeO.bind ?_ (fun _ => ?_))
   | exact ih0 _ _ _ _
   | exact ih1 _ _ _ _ _ _
   | exact impl_NetOk.mono _ _
   | exact LeO.none _
   | refine LeO.ite ?_ ?_
   | refine LeO.bind ?_ (fun _ => ?_)
  ·intro y0 y1 y2 y3 y4 y5
   unfold impl_PathRoom.l0
   repeat' first
   | (with_reducible exact ih0 _ _ _ _)
   | (with_reducible exact ih1 _ _ _ _ _ _)
   | (with_reducible exact impl_NetOk.mono _ _)
   | (with_reducible exact LeO.refl _)
   | (with_reducible exact LeO.none _)
   | (with_reducible refine LeO.ite ?_ ?_)
   | (with_reducible refine LeO.bind ?_ (fun _ => ?_))
   | exact ih0 _ _ _ _
   | exact ih1 _ _ _ _ _ _
   | exact impl_NetOk.mono _ _
   | exact LeO.none _
   | refine LeO.ite ?_ ?_
   | refine LeO.bind ?_ (fun _ => ?_)
theorem impl_PathRoom.mono : ∀ a0 a1 a2 k, LeO (impl_PathRoom.f k a0 a1 a2) (impl_PathRoom.f (k + 1) a0 a1 a2) := by
 intro a0 a1 a2 k
 obtain ⟨ih0, ih1⟩ := impl_PathRoom.mono_l k
 unfold impl_PathRoom.f
 repeat' first
   | (with_reducible exact ih0 _ _ _ _)
   | (with_reducible exact ih1 _ _ _ _ _ _)
   | (with_reducible exact impl_NetOk.mono _ _)
   | (with_reducible exact LeO.refl _)
   | (with_reducible exact LeO.none _)
   | (with_reducible refine LeO.ite ?_ ?_)
   | (with_reducible refine LeO.bind ?_ (fun _ => ?_))
   | exact ih0 _ _ _ _
   | exact ih1 _ _ _ _ _ _
   | exact impl_NetOk.mono _ _
   | exact LeO.none _
   | refine LeO.ite ?_ ?_
   | refine LeO.bind ?_ (fun _ => ?_)
set_option maxHeartbeats 8000000 in
set_option maxRecDepth 100000 in
theorem impl_PathRoom.calls (k : Nat) (A0 : Option Addr) (c0 : Nat) (l0 : List (S34)) (a1 : Int) (a2 : Int) (r : Int) (w : World) (hr0 : Kd.C k34 w A0 l0.length l0) (hc0 : l0.length ≤ c0) (h : impl_PathRoom.f k l0 a1 a2 = some r) :
  Calls Try.prog 11 #[.slice A0 l0.length c0, .int .i64 a1, .int .i64 a2] w fun e w' => e = .returned (.int .i64 r) ∧ Below w.heap.size w w' := by
 have hu29 := Try.underlying29
 have HR0 := mk_ hr0
 have HC0 := mk_ hc0
 clear hr0 hc0
 have HB := mk_ (Below.refl w.heap.size w)
 have H := h
 unfold impl_PathRoom.f at H
 clear h
 have HC4 := mk_ H
 clear H
 go_enter Try.func11, Try.ntmps11
 go_upto_region 1 with (fail)
 go_cut [26] (fun v26 wc => ∃ (kq : Nat) (x26_3 : Bool), v26 = .bool x26_3 ∧ Aside0 (impl_PathRoom.j0 kq l0 a1 a2 x26_3 = some r) ∧ Aside0 (kq ≤ k) ∧ Aside0 (Below w.heap.size w wc))
 case first =>
  have H := HC4.out
  clear HC4
  replace H := Option.bind_eq_some_iff.mp H
  obtain ⟨t243, A50, H⟩ := H
  (try dsimp only at H)
  have A5 := mk_ A50
  clear A50
  by_cases c6 : t243 = true
  rotate_left
  focus
   replace c6 := Bool.eq_false_iff.mpr c6
   subst c6
   have H1 : (impl_PathRoom.j0 k l0 a1 a2 true) = some r := by rw [if_neg (show ¬ (false = true) by decide)] at H; exact H
   clear H
   have H := H1
   clear H1
   have H' := mk_ H
   clear H
  rotate_left
  focus
   subst c6
   rw [if_pos rfl] at H
   replace H := Option.bind_eq_some_iff.mp H
   obtain ⟨t244, A70, H⟩ := H
   (try dsimp only at H)
   have A7 := mk_ A70
   clear A70
   by_cases c8 : t244 = true
   rotate_left
   focus
    replace c8 := Bool.eq_false_iff.mpr c8
    subst c8
    have H1 : (impl_PathRoom.j0 k l0 a1 a2 true) = some r := by rw [if_neg (show ¬ (false = true) by decide)] at H; exact H
    clear H
    have H := H1
    clear H1
    have H' := mk_ H
    clear H
   rotate_left
   focus
    subst c8
    rw [if_pos rfl] at H
    replace H := Option.bind_eq_some_iff.mp H
    obtain ⟨t245, A90, H⟩ := H
    replace H : (impl_PathRoom.j0 k l0 a1 a2 (!t245)) = some r := H
    have A9 := mk_ A90
    clear A90
    have H' := mk_ H
    clear H
   rotate_left
  rotate_left 2
  all_goals
   go_wp2_with (first | ((with_reducible refine gate_callee (f := 47) rfl ?_); refine goesL_ (some 12) rfl rfl Try.func47 (by kernel_rfl) rfl #[.slice A0 l0.length c0] rfl (by (try simp only [lm_, lo_, ln_]); try rfl) ?_; (with_reducible refine (impl_NetOk.calls k _ _ l0 false _ ?side1 ?side2 A5.out).mono ?_); (case side1 => repeat (first | exact (Kd.C_below HR0.out HB.out) | (with_reducible refine Kd.C_alloc ?_ _) | (with_reducible refine Kd.C_drewN ?_ _) | (with_reducible refine Kd.C_drew ?_))); (case side2 => exact HC0.out); rintro e w18160 ⟨rfl, hb⟩; refine ⟨_, rfl, ?_⟩; replace HB := mk_ (below_step (ub_ HB.out) hb)) | ((with_reducible refine gate_callee (f := 47) rfl ?_); refine goesL_ (some 12) rfl rfl Try.func47 (by kernel_rfl) rfl #[.slice A0 l0.length c0] rfl (by (try simp only [lm_, lo_, ln_]); try rfl) ?_; (with_reducible refine (impl_NetOk.calls k _ _ l0 true _ ?side1 ?side2 A5.out).mono ?_); (case side1 => repeat (first | exact (Kd.C_below HR0.out HB.out) | (with_reducible refine Kd.C_alloc ?_ _) | (with_reducible refine Kd.C_drewN ?_ _) | (with_reducible refine Kd.C_drew ?_))); (case side2 => exact HC0.out); rintro e w18160 ⟨rfl, hb⟩; refine ⟨_, rfl, ?_⟩; replace HB := mk_ (below_step (ub_ HB.out) hb)) | (go_at_call 48; (with_reducible refine (impl_in.calls a1 0 (wrap64 ((l0.length : Int) - 1)) false _ A7.out).mono ?_); rintro e w' ⟨rfl, ⟨nd, rfl⟩⟩) | (go_at_call 48; (with_reducible refine (impl_in.calls a1 0 (wrap64 ((l0.length : Int) - 1)) true _ A7.out).mono ?_); rintro e w' ⟨rfl, ⟨nd, rfl⟩⟩) | (go_at_call 49; (with_reducible refine (impl_word.calls a2 t245 _ A9.out).mono ?_); rintro e w' ⟨rfl, ⟨nd, rfl⟩⟩))
   go_meet
  iterate 2
   focus
    case rel => exact ⟨_, (true), (by first | rfl | (simp; done) | (simp [*]; done)), H', ⟨by first | omega | exact Nat.le_refl _⟩, ⟨ub_ HB.out⟩⟩
  ·case rel => exact ⟨_, (!t245), (by first | rfl | (simp; done) | (simp [*]; done)), H', ⟨by first | omega | exact Nat.le_refl _⟩, ⟨ub_ HB.out⟩⟩
 case rest =>
  clear HC4
  try clear c1
  try clear p2
  try clear c4
  try clear c6
  try clear p6
  try clear c8
  try clear c11
  obtain ⟨kq, x26_3, rfl, HA, HJ3, HB⟩ := hcut
  cases kq with
  | zero => exact absurd HA.out (by simp [impl_PathRoom.j0])
  | succ kj3 =>
   have H := HA.out
   clear HA
   simp only [impl_PathRoom.j0] at H
   by_cases c13 : x26_3 = true
   ·subst c13
    have H1 : (some 0) = some r := by rw [if_pos rfl] at H; exact H
    clear H
    have H := H1
    clear H1
    obtain rfl := Option.some.inj H
    go_wp2
    go_ret
    exact ⟨by first | rfl | (simp [errW_none, errW_some] <;> rfl) | (simp [*, errW_none, errW_some] <;> rfl), by repeat (first | (with_reducible first | exact HB.out | apply na_ | apply nn_ | apply nw_) | exact HB.out)⟩
   replace c13 := Bool.eq_false_iff.mpr c13
   subst c13
   rw [if_neg (show ¬ (false = true) by decide)] at H
   have H' := mk_ H
   clear H
   go_wp2
   go_loopg [7, 8, 31] kj3 (fun kq v7 v8 v31 w' => ∃ (x7_2 : Int) (x8_2 : Int) (x31_2 : Int), v7 = .int .i64 x7_2 ∧ v8 = .int .i64 x8_2 ∧ v31 = .int .i64 x31_2 ∧ Aside0 (impl_PathRoom.l0 kq l0 a2 x7_2 x8_2 (wrap64 ((l0.length : Int) + 1)) x31_2 = some r) ∧ Aside0 (kq ≤ kj3) ∧ Aside0 (Below w.heap.size w w'))
   case atStart => exact ⟨(48), (a1), (0), (by first | rfl | (simp; done) | (simp [*]; done)), (by first | rfl | (simp; done) | (simp [*]; done)), (by first | rfl | (simp; done) | (simp [*]; done)), H', ⟨Nat.le_refl _⟩, ⟨ub_ HB.out⟩⟩
   case round =>
    clear H'
    try clear c1
    try clear p2
    try clear c4
    try clear c6
    try clear p6
    try clear c8
    try clear c11
    try clear c13
    try clear p2
    try clear p6
    obtain ⟨x7_2, x8_2, x31_2, rfl, rfl, rfl, HA, HK2, HB⟩ := hrel
    cases gk with
    | zero => exact absurd HA.out (by simp [impl_PathRoom.l0])
    | succ k2 =>
     have H := HA.out
     clear HA
     simp only [impl_PathRoom.l0] at H
     by_cases c14 : x31_2 < (wrap64 ((l0.length : Int) + 1))
     rotate_left
     focus
      rw [if_neg c14] at H
      have c14b0 : decide (x31_2 < (wrap64 ((l0.length : Int) + 1))) = false := decide_eq_false c14
      clear c14
      obtain rfl := Option.some.inj H
     rotate_left
     focus
      rw [if_pos c14] at H
      have c14b0 : decide (x31_2 < (wrap64 ((l0.length : Int) + 1))) = true := decide_eq_true c14
      clear c14
      by_cases c15 : x8_2 < 0
      focus
       rw [if_pos c15] at H
       have c15b0 : decide (x8_2 < 0) = true := decide_eq_true c15
       clear c15
       obtain rfl := Option.some.inj H
      rotate_left
      focus
       rw [if_neg c15] at H
       have c15b0 : decide (x8_2 < 0) = false := decide_eq_false c15
       clear c15
       by_cases c16 : 0 ≤ x8_2
       rotate_left
       ·rw [if_neg c16] at H
        exact absurd H (by simp)
       rw [if_pos c16] at H
       have c16b0 : decide (0 ≤ x8_2) = true := decide_eq_true c16
       clear c16
       by_cases c17 : x8_2 < (l0.length : Int)
       rotate_left
       ·rw [if_neg c17] at H
        exact absurd H (by simp)
       rw [if_pos c17] at H
       have c17b0 : decide (x8_2 < (l0.length : Int)) = true := decide_eq_true c17
       clear c17
       by_cases c18 : ((rd_T34 l0 x8_2).f0) = a2
       focus
        rw [if_pos c18] at H
        have c18b0 : (((rd_T34 l0 x8_2).f0) == a2) = true := beq_iff_eq.mpr c18
        have c18b1 : (((rd_T34 l0 x8_2).f0) != a2) = false := bne_eq_false_iff_eq.mpr c18
        clear c18
        obtain rfl := Option.some.inj H
        have p246 : 0 ≤ (x8_2 : Int) := of_decide_eq_true (by first | (with_reducible assumption) | assumption)
        have q246 : x8_2 < (l0.length : Int) := of_decide_eq_true (by first | (with_reducible assumption) | assumption)
        obtain ⟨ad246, A246_1, c246_1, e246, hx246_0, hx246_1, hl246_1, hi246_1⟩ := at_T34 HR0.out x8_2 p246 q246
        cases e246
        replace hx246_0 := (HB.out.cell (lc_ w _ hx246_0)).trans hx246_0
        replace hx246_1 := (HB.out.cell (lc_ w _ hx246_1)).trans hx246_1
        have HR246_1 := mk_ hi246_1
        have HC246_1 := mk_ hl246_1
        clear hi246_1 hl246_1
        replace p246 := eq_true p246
        replace q246 := eq_true q246
       rotate_left
       focus
        rw [if_neg c18] at H
        have c18b0 : (((rd_T34 l0 x8_2).f0) == a2) = false := beq_eq_false_iff_ne.mpr c18
        have c18b1 : (((rd_T34 l0 x8_2).f0) != a2) = true := bne_iff_ne.mpr c18
        replace H := Option.bind_eq_some_iff.mp H
        obtain ⟨⟨t248, t249, t250, t251, t252⟩, A190, H⟩ := H
        (try dsimp only at H)
        have A19 := mk_ A190
        clear A190
        by_cases c20 : t252 = true
        rotate_left
        focus
         replace c20 := Bool.eq_false_iff.mpr c20
         subst c20
         have H1 : (some 0) = some r := by rw [if_neg (show ¬ (false = true) by decide)] at H; exact H
         clear H
         have H := H1
         clear H1
         obtain rfl := Option.some.inj H
         have p246 : 0 ≤ (x8_2 : Int) := of_decide_eq_true (by first | (with_reducible assumption) | assumption)
         have q246 : x8_2 < (l0.length : Int) := of_decide_eq_true (by first | (with_reducible assumption) | assumption)
         obtain ⟨ad246, A246_1, c246_1, e246, hx246_0, hx246_1, hl246_1, hi246_1⟩ := at_T34 HR0.out x8_2 p246 q246
         cases e246
         replace hx246_0 := (HB.out.cell (lc_ w _ hx246_0)).trans hx246_0
         replace hx246_1 := (HB.out.cell (lc_ w _ hx246_1)).trans hx246_1
         have HR246_1 := mk_ hi246_1
         have HC246_1 := mk_ hl246_1
         clear hi246_1 hl246_1
         replace p246 := eq_true p246
         replace q246 := eq_true q246
         have p247 : 0 ≤ (x8_2 : Int) := of_decide_eq_true (by first | (with_reducible assumption) | assumption)
         have q247 : x8_2 < (l0.length : Int) := of_decide_eq_true (by first | (with_reducible assumption) | assumption)
         obtain ⟨ad247, A247_1, c247_1, e247, hx247_0, hx247_1, hl247_1, hi247_1⟩ := at_T34 HR0.out x8_2 p247 q247
         obtain rfl : ad246 = ad247 := (by injection e247)
         replace hx247_0 := (HB.out.cell (lc_ w _ hx247_0)).trans hx247_0
         replace hx247_1 := (HB.out.cell (lc_ w _ hx247_1)).trans hx247_1
         have HR247_1 := mk_ hi247_1
         have HC247_1 := mk_ hl247_1
         clear hi247_1 hl247_1
         replace p247 := eq_true p247
         replace q247 := eq_true q247
         have ea_ := Option.some.inj (hx246_1.symm.trans hx247_1)
         injection ea_ with ea_ en_ ec_
         subst ea_
         subst ec_
         clear en_
        rotate_left
        focus
         subst c20
         rw [if_pos rfl] at H
         obtain ⟨ji21, hji21⟩ : ∃ j_ : Int, (mn x7_2 t251) = j_ := ⟨_, rfl⟩
         replace H : ((impl_stationAt.f l0 t250).bind fun t254 => (impl_PathRoom.l0 k2 l0 a2 ji21 t254 (wrap64 ((l0.length : Int) + 1)) (wrap64 (x31_2 + 1)))) = some r := by first | (rw [hji21] at H; exact H) | (simp only [hji21] at H ⊢; exact H)
         (try rw [hji21] at A19)
         have hji21_ : (if t251 < x7_2 then t251 else x7_2) = ji21 := hji21
         replace H := Option.bind_eq_some_iff.mp H
         obtain ⟨t254, A220, H⟩ := H
         replace H : (impl_PathRoom.l0 k2 l0 a2 ji21 t254 (wrap64 ((l0.length : Int) + 1)) (wrap64 (x31_2 + 1))) = some r := H
         have A22 := mk_ A220
         clear A220
         have H' := mk_ H
         clear H
         have p246 : 0 ≤ (x8_2 : Int) := of_decide_eq_true (by first | (with_reducible assumption) | assumption)
         have q246 : x8_2 < (l0.length : Int) := of_decide_eq_true (by first | (with_reducible assumption) | assumption)
         obtain ⟨ad246, A246_1, c246_1, e246, hx246_0, hx246_1, hl246_1, hi246_1⟩ := at_T34 HR0.out x8_2 p246 q246
         cases e246
         replace hx246_0 := (HB.out.cell (lc_ w _ hx246_0)).trans hx246_0
         replace hx246_1 := (HB.out.cell (lc_ w _ hx246_1)).trans hx246_1
         have HR246_1 := mk_ hi246_1
         have HC246_1 := mk_ hl246_1
         clear hi246_1 hl246_1
         replace p246 := eq_true p246
         replace q246 := eq_true q246
         have p247 : 0 ≤ (x8_2 : Int) := of_decide_eq_true (by first | (with_reducible assumption) | assumption)
         have q247 : x8_2 < (l0.length : Int) := of_decide_eq_true (by first | (with_reducible assumption) | assumption)
         obtain ⟨ad247, A247_1, c247_1, e247, hx247_0, hx247_1, hl247_1, hi247_1⟩ := at_T34 HR0.out x8_2 p247 q247
         obtain rfl : ad246 = ad247 := (by injection e247)
         replace hx247_0 := (HB.out.cell (lc_ w _ hx247_0)).trans hx247_0
         replace hx247_1 := (HB.out.cell (lc_ w _ hx247_1)).trans hx247_1
         have HR247_1 := mk_ hi247_1
         have HC247_1 := mk_ hl247_1
         clear hi247_1 hl247_1
         replace p247 := eq_true p247
         replace q247 := eq_true q247
         have ea_ := Option.some.inj (hx246_1.symm.trans hx247_1)
         injection ea_ with ea_ en_ ec_
         subst ea_
         subst ec_
         clear en_
        rotate_left
       rotate_left 2
      rotate_left 3
     rotate_left 4
     all_goals
      go_wp2_with (first | ((with_reducible refine gate_callee (f := 50) rfl ?_); refine goesL_ (some 50) rfl rfl Try.func50 (by kernel_rfl) rfl #[.slice A246_1 ((rd_T34 l0 x8_2).f1).length c246_1, .int .i64 a2, .int .i64 17] rfl (by (try simp only [lm_, lo_, ln_]); try rfl) ?_; (with_reducible refine (impl_routeTo.calls _ _ ((rd_T34 l0 x8_2).f1) a2 17 t248 t249 t250 t251 false _ ?side1 ?side2 A19.out).mono ?_); (case side1 => repeat (first | exact (Kd.C_below HR247_1.out HB.out) | (with_reducible refine Kd.C_alloc ?_ _) | (with_reducible refine Kd.C_drewN ?_ _) | (with_reducible refine Kd.C_drew ?_))); (case side2 => exact HC247_1.out); rintro e w18360 ⟨rfl, hb⟩; refine ⟨_, rfl, ?_⟩; replace HB := mk_ (below_step (ub_ HB.out) hb)) | ((with_reducible refine gate_callee (f := 50) rfl ?_); refine goesL_ (some 50) rfl rfl Try.func50 (by kernel_rfl) rfl #[.slice A246_1 ((rd_T34 l0 x8_2).f1).length c246_1, .int .i64 a2, .int .i64 17] rfl (by (try simp only [lm_, lo_, ln_]); try rfl) ?_; (with_reducible refine (impl_routeTo.calls _ _ ((rd_T34 l0 x8_2).f1) a2 17 t248 t249 t250 t251 true _ ?side1 ?side2 A19.out).mono ?_); (case side1 => repeat (first | exact (Kd.C_below HR247_1.out HB.out) | (with_reducible refine Kd.C_alloc ?_ _) | (with_reducible refine Kd.C_drewN ?_ _) | (with_reducible refine Kd.C_drew ?_))); (case side2 => exact HC247_1.out); rintro e w18360 ⟨rfl, hb⟩; refine ⟨_, rfl, ?_⟩; replace HB := mk_ (below_step (ub_ HB.out) hb)) | ((with_reducible refine gate_dst (N := 9) rfl ?_); refine box_event ?hg (N := 9) ?hd (cs := #[.int .i64 0, .int .i64 0, .int .i64 0, .int .i64 0]) (t := 29) ?hr ?_; (case hd => rfl); (case hg => rfl); (case hr => first | (go_simp; done) | (go_simp; rfl)); intro gb18400 hg w18401 hbox hb; have n0_ := mk_ (below_step (ub_ HB.out) hb); have BK253 := mk_ (hbox); have GW253 := mk_ ((by rw [hg]; exact (below_size (ub_ HB.out)) : w.heap.size ≤ gb18400)); have GE253 := ge_ ((by rw [hg]; exact (below_size (ub_ HB.out)) : w.heap.size ≤ gb18400)); replace HB := n0_; clear n0_; clear hb hbox hg; obtain ⟨_, _, _, _, _, _, _, _⟩ := cells4_ BK253.out) | ((with_reducible refine gate_callee (f := 51) rfl ?_); refine goesL_ (some 62) rfl rfl Try.func51 (by kernel_rfl) rfl #[.slice (some ad246) l0.length c0, .int .i64 t250] rfl (by (try simp only [lm_, lo_, ln_]); try rfl) ?_; (with_reducible refine (impl_stationAt.calls _ _ l0 t250 t254 _ ?side1 ?side2 A22.out).mono ?_); (case side1 => exact Kd.C_below HR0.out (us_ HB.out)); (case side2 => exact HC0.out); rintro e w18440 ⟨rfl, hb⟩; refine ⟨_, rfl, ?_⟩; replace BK253 := mk_ (blk_below (g := gb18400) (o := .cells #[.int .i64 t248, .int .i64 t249, .int .i64 t250, .int .i64 t251] 29 (0, 0)) (by (with_reducible repeat (first | refine bn_ ?_ _ | refine bw_ ?_ | refine ba_ ?_ _)); refine blk_put (cs := #[.int .i64 t248, .int .i64 t249, .int .i64 t250, .int .i64 0]) ?_ 3 _ rfl; (with_reducible repeat (first | refine bn_ ?_ _ | refine bw_ ?_ | refine ba_ ?_ _)); refine blk_put (cs := #[.int .i64 t248, .int .i64 t249, .int .i64 0, .int .i64 0]) ?_ 2 _ rfl; (with_reducible repeat (first | refine bn_ ?_ _ | refine bw_ ?_ | refine ba_ ?_ _)); refine blk_put (cs := #[.int .i64 t248, .int .i64 0, .int .i64 0, .int .i64 0]) ?_ 1 _ rfl; (with_reducible repeat (first | refine bn_ ?_ _ | refine bw_ ?_ | refine ba_ ?_ _)); refine blk_put (cs := #[.int .i64 0, .int .i64 0, .int .i64 0, .int .i64 0]) ?_ 0 _ rfl; (with_reducible repeat (first | refine bn_ ?_ _ | refine bw_ ?_ | refine ba_ ?_ _)); exact BK253.out) hb); replace HB := mk_ (below_step (us_ HB.out) hb)))
     iterate 4
      focus
       go_ret
      rotate_left
     rotate_right 4
     iterate 3
      focus
       exact ⟨by first | rfl | (simp [errW_none, errW_some] <;> rfl) | (simp [*, errW_none, errW_some] <;> rfl), by repeat (first | (with_reducible first | exact HB.out | apply na_ | apply nn_ | apply nw_) | exact HB.out)⟩
     ·exact ⟨by first | rfl | (simp [errW_none, errW_some] <;> rfl) | (simp [*, errW_none, errW_some] <;> rfl), us_ HB.out⟩
     ·go_roundg k2
      case measure => have := HJ3.out; have := HK2.out; omega
      case rel => exact ⟨(ji21), (t254), (wrap64 (x31_2 + 1)), (by first | rfl | (simp; done) | (simp only [← hji21] <;> (first | rfl | simp)) | (simp [*]; done)), (by first | rfl | (simp; done) | (simp [*]; done)), (by first | rfl | (simp; done) | (simp [*]; done)), H', ⟨by have := HJ3.out; have := HK2.out; omega⟩, ⟨us_ HB.out⟩⟩

end Go.Proofs.Ytkkibccnpkbbjab.MFnPathRoom
