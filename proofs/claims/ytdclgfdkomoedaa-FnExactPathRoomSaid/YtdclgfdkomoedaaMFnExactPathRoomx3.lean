/- Functions that the law FnExactPathRoom reaches, each with the proof that the machine's call comes to just its answer; no conditions but those that each theorem states. Printed by a program of this session over the kit's print. -/
import Derived.Test.YtdclgfdkomoedaaMFnExactPathRoomx0
import Derived.Test.YtdclgfdkomoedaaMFnExactPathRoomx1
import Derived.Test.YtdclgfdkomoedaaMFnExactPathRoomx2
namespace Go.Proofs.Ytdclgfdkomoedaa.MFnExactPathRoom
open Go.RowKit Go.Proofs.YtdclgfdkomoedaaV.PrintWords Go.Proofs.YtdclgfdkomoedaaV.PrintLast Go.Proofs.YtdclgfdkomoedaaV.PrintMore
attribute [local go_sem] max2_int min2_int max_two min_two max_three min_three max_four min_four   -- for this text's walks alone
set_option linter.unusedVariables false
set_option linter.unusedSimpArgs false

/-! ### spec_RouteTo: function 62 -/
mutual
def spec_RouteTo.l0 : Nat → List (S51) → Int → Int → Option (Int × Int × Int × Int × Bool)
 | 0, _, _, _ => none
 | k + 1, x0, x1, x6 => if x6 ≥ 0 then ((spec_RoutesOk.f k x0).bind fun t132 => (spec_RouteTo.j1 k x0 x1 x6 t132)) else (spec_RouteTo.j1 k x0 x1 x6 false)
def spec_RouteTo.j1 : Nat → List (S51) → Int → Int → Bool → Option (Int × Int × Int × Int × Bool)
 | 0, _, _, _, _ => none
 | k + 1, x0, x1, x6, x15 => if x15 = true then (if 0 ≤ x6 then (if x6 < (x0.length : Int) then ((spec_RouteFits.f ((rd_T51 x0 x6).f0) ((rd_T51 x0 x6).f1) ((rd_T51 x0 x6).f2) ((rd_T51 x0 x6).f3) x1).bind fun t134 => (if t134 = true then (some ((rd_T51 x0 x6).f0, (rd_T51 x0 x6).f1, (rd_T51 x0 x6).f2, (rd_T51 x0 x6).f3, true)) else (spec_RouteTo.l0 k x0 x1 (wrap64 (x6 - 1))))) else (none)) else (none)) else (some (0, 0, 0, 0, false))
end
def spec_RouteTo.f (k : Nat) (l0 : List (S51)) (a1 : Int) : Option (Int × Int × Int × Int × Bool) := spec_RouteTo.l0 k l0 a1 (wrap64 ((l0.length : Int) - 1))
theorem spec_RouteTo.mono_l : ∀ k, (∀ y0 y1 y2, LeO (spec_RouteTo.l0 k y0 y1 y2) (spec_RouteTo.l0 (k + 1) y0 y1 y2)) ∧ (∀ y0 y1 y2 y3, LeO (spec_RouteTo.j1 k y0 y1 y2 y3) (spec_RouteTo.j1 (k + 1) y0 y1 y2 y3))
 | 0 => ⟨fun _ _ _ r h => by simp [spec_RouteTo.l0] at h, fun _ _ _ _ r h => by simp [spec_RouteTo.j1] at h⟩
 | k + 1 => by
  obtain ⟨ih0, ih1⟩ := spec_RouteTo.mono_l k
  refine ⟨?_, ?_⟩
  ·intro y0 y1 y2
   unfold spec_RouteTo.l0
   repeat' first
   | (with_reducible exact ih0 _ _ _)
   | (with_reducible exact ih1 _ _ _ _)
   | (with_reducible exact spec_RoutesOk.mono _ _)
   | (with_reducible exact LeO.refl _)
   | (with_reducible exact LeO.none _)
   | (with_reducible refine LeO.ite ?_ ?_)
   | (with_reducible refine LeO.bind ?_ (fun _ => ?_))
   | exact ih0 _ _ _
   | exact ih1 _ _ _ _
   | exact spec_RoutesOk.mono _ _
   | exact LeO.none _
   | refine LeO.ite ?_ ?_
   | refine LeO.bind ?_ (fun _ => ?_)
  ·intro y0 y1 y2 y3
   unfold spec_RouteTo.j1
   repeat' first
   | (with_reducible exact ih0 _ _ _)
   | (with_reducible exact ih1 _ _ _ _)
   | (with_reducible exact spec_RoutesOk.mono _ _)
   | (with_reducible exact LeO.refl _)
   | (with_reducible exact LeO.none _)
   | (with_reducible refine LeO.ite ?_ ?_)
   | (with_reducible refine LeO.bind ?_ (fun _ => ?_))
   | exact ih0 _ _ _
   | exact ih1 _ _ _ _
   | exact spec_RoutesOk.mono _ _
   | exact LeO.none _
   | refine LeO.ite ?_ ?_
   | refine LeO.bind ?_ (fun _ => ?_)
theorem spec_RouteTo.mono : ∀ a0 a1 k, LeO (spec_RouteTo.f k a0 a1) (spec_RouteTo.f (k + 1) a0 a1) := by
 intro a0 a1 k
 obtain ⟨ih0, ih1⟩ := spec_RouteTo.mono_l k
 unfold spec_RouteTo.f
 repeat' first
   | (with_reducible exact ih0 _ _ _)
   | (with_reducible exact ih1 _ _ _ _)
   | (with_reducible exact spec_RoutesOk.mono _ _)
   | (with_reducible exact LeO.refl _)
   | (with_reducible exact LeO.none _)
   | (with_reducible refine LeO.ite ?_ ?_)
   | (with_reducible refine LeO.bind ?_ (fun _ => ?_))
   | exact ih0 _ _ _
   | exact ih1 _ _ _ _
   | exact spec_RoutesOk.mono _ _
   | exact LeO.none _
   | refine LeO.ite ?_ ?_
   | refine LeO.bind ?_ (fun _ => ?_)
set_option maxHeartbeats 8000000 in
set_option maxRecDepth 100000 in
theorem spec_RouteTo.calls (k : Nat) (A0 : Option Addr) (c0 : Nat) (l0 : List (S51)) (a1 : Int) (r1 : Int) (r2 : Int) (r3 : Int) (r4 : Int) (r5 : Bool) (w : World) (hr0 : Kd.C k51 w A0 l0.length l0) (hc0 : l0.length ≤ c0) (h : spec_RouteTo.f k l0 a1 = some (r1, r2, r3, r4, r5)) :
  Calls Try.prog 62 #[.slice A0 l0.length c0, .int .i64 a1] w fun e w' => e = .returned (.tuple #[.agg #[.int .i64 r1, .int .i64 r2, .int .i64 r3, .int .i64 r4], .bool r5]) ∧ Below w.heap.size w w' := by
 have hu51 := Try.underlying51
 have HR0 := mk_ hr0
 have HC0 := mk_ hc0
 clear hr0 hc0
 have HB := mk_ (Below.refl w.heap.size w)
 have H : (spec_RouteTo.l0 k l0 a1 (wrap64 ((l0.length : Int) - 1))) = some (r1, r2, r3, r4, r5) := h
 clear h
 have H' := mk_ H
 clear H
 go_enter Try.func62, Try.ntmps62
 go_wp2_with (first | ((with_reducible refine gate_dst (N := 4) rfl ?_); refine box_event ?hg (N := 4) ?hd (cs := #[.int .i64 0, .int .i64 0, .int .i64 0, .int .i64 0]) (t := 51) ?hr ?_; (case hd => rfl); (case hg => rfl); (case hr => first | (go_simp; done) | (go_simp; rfl)); intro gb131 hg w3 hbox hb; have n0_ := mk_ (below_step (ub_ HB.out) hb); have n1_ := mk_ (hbox); have n2_ := mk_ ((by rw [hg]; exact (below_size (ub_ HB.out)) : w.heap.size ≤ gb131)); have n3_ := mk_ ((by rw [hg]; exact (below_size (ub_ HB.out)) : w.heap.size ≤ gb131)); clear HB; have HB := n0_; have BK131 := n1_; have GW131 := n2_; have GE131 := ge_ n3_.out; clear n0_ n1_ n2_ n3_; clear hb hbox hg))
 go_loopg [6] k (fun kq v6 w' => ∃ (x6_1 : Int) (x132000_1 : Int) (x132001_1 : Int) (x132002_1 : Int) (x132003_1 : Int), v6 = .int .i64 x6_1 ∧ Aside0 (spec_RouteTo.l0 kq l0 a1 x6_1 = some (r1, r2, r3, r4, r5)) ∧ Aside0 (kq ≤ k) ∧ Aside0 (w'.heap[gb131]? = some (.cells #[.int .i64 x132000_1, .int .i64 x132001_1, .int .i64 x132002_1, .int .i64 x132003_1] 51 (0, 0))) ∧ Aside0 (Below w.heap.size w w'))
 case atStart => exact ⟨(wrap64 ((l0.length : Int) - 1)), (0), (0), (0), (0), (by first | rfl | (simp; done) | (simp [*]; done)), H', ⟨Nat.le_refl _⟩, ⟨u_ BK131.out⟩, ⟨us_ HB.out⟩⟩
 case round =>
  clear H'
  try clear p2
  obtain ⟨x6_1, x132000_1, x132001_1, x132002_1, x132003_1, rfl, HA, HK1, BK131, HB⟩ := hrel
  cases gk with
  | zero => exact absurd HA.out (by simp [spec_RouteTo.l0])
  | succ k1 =>
   have H := HA.out
   clear HA
   simp only [spec_RouteTo.l0] at H
   have HC4 := mk_ H
   clear H
   go_upto_region 2 with (fail)
   go_cut [15] (fun v15 wc => ∃ (kq : Nat) (x15_3 : Bool), v15 = .bool x15_3 ∧ Aside0 (spec_RouteTo.j1 kq l0 a1 x6_1 x15_3 = some (r1, r2, r3, r4, r5)) ∧ Aside0 (kq ≤ k1) ∧ Aside0 (wc.heap[gb131]? = some (.cells #[.int .i64 x132000_1, .int .i64 x132001_1, .int .i64 x132002_1, .int .i64 x132003_1] 51 (0, 0))) ∧ Aside0 (Below w.heap.size w wc))
   case first =>
    have H := HC4.out
    clear HC4
    by_cases c5 : x6_1 ≥ 0
    rotate_left
    ·rw [if_neg c5] at H
     have c5b0 : decide (0 ≤ x6_1) = false := decide_eq_false c5
     clear c5
     (first | rw [c5b0] | (simp only [i64_w, i32_w]; rw [c5b0]) | skip)
     have H' := mk_ H
     clear H
     go_wp2
     go_meet
     case rel => exact ⟨_, (false), (by first | rfl | (simp; done) | (simp [*]; done)), H', ⟨by have := HK1.out; first | omega | exact Nat.le_refl _⟩, ⟨u_ BK131.out⟩, ⟨us_ HB.out⟩⟩
    rw [if_pos c5] at H
    have c5b0 : decide (0 ≤ x6_1) = true := decide_eq_true c5
    clear c5
    (first | rw [c5b0] | (simp only [i64_w, i32_w]; rw [c5b0]) | skip)
    replace H := Option.bind_eq_some_iff.mp H
    obtain ⟨t132, A60, H⟩ := H
    replace H : (spec_RouteTo.j1 k1 l0 a1 x6_1 t132) = some (r1, r2, r3, r4, r5) := H
    have A6 := mk_ A60
    clear A60
    have H' := mk_ H
    clear H
    go_wp2_with (first | (go_at_call 76; (with_reducible refine (spec_RoutesOk.calls k1 _ _ l0 t132 _ ?side1 ?side2 A6.out).mono ?_); (case side1 => repeat (first | exact (Kd.C_below HR0.out HB.out) | (with_reducible refine Kd.C_alloc ?_ _) | (with_reducible refine Kd.C_drewN ?_ _) | (with_reducible refine Kd.C_drew ?_))); (case side2 => exact HC0.out); rintro e w7 ⟨rfl, hb⟩; have n0_ := mk_ (blk_below (u_ BK131.out) hb); have n1_ := mk_ (below_step (us_ HB.out) hb); clear BK131; clear HB; have BK131 := n0_; have HB := n1_; clear n0_ n1_; (try clear hb); (try clear hb2); (try clear hk); (try clear hi)))
    go_meet
    case rel => exact ⟨_, (t132), (by first | rfl | (simp; done) | (simp [*]; done)), H', ⟨by have := HK1.out; first | omega | exact Nat.le_refl _⟩, ⟨u_ BK131.out⟩, ⟨us_ HB.out⟩⟩
   case rest =>
    clear HC4
    try clear p2
    try clear c5
    try clear c5b0
    try clear c6
    try clear p6
    try clear p2
    obtain ⟨kq, x15_3, rfl, HA, HJ3, BK131, HB⟩ := hcut
    cases kq with
    | zero => exact absurd HA.out (by simp [spec_RouteTo.j1])
    | succ kj3 =>
     have H := HA.out
     clear HA
     simp only [spec_RouteTo.j1] at H
     by_cases c8 : x15_3 = true
     rotate_left
     ·replace c8 := Bool.eq_false_iff.mpr c8
      subst c8
      have H1 : (some (0, 0, 0, 0, false)) = some (r1, r2, r3, r4, r5) := by rw [if_neg (show ¬ (false = true) by decide)] at H; exact H
      clear H
      have H := H1
      clear H1
      simp only [Option.some.injEq, Prod.mk.injEq] at H
      obtain ⟨rfl, rfl, rfl, rfl, rfl⟩ := H
      obtain ⟨hcz16_0, hcz16_1, hcz16_2, hcz16_3, hfz16_0, hfz16_1, hfz16_2, hfz16_3⟩ := cells4_ BK131.out
      go_wp2
      refine bodyPost_ret (results_ct rfl _ _ gb131 51 #[.int .i64 0, .int .i64 0, .int .i64 0, .int .i64 0] (0, 0) _ rfl (by (with_reducible repeat (first | refine bn_ ?_ _ | refine bw_ ?_ | refine ba_ ?_ _)); refine blk_put (cs := #[.int .i64 0, .int .i64 0, .int .i64 0, .int .i64 x132003_1]) ?_ 3 _ rfl; (with_reducible repeat (first | refine bn_ ?_ _ | refine bw_ ?_ | refine ba_ ?_ _)); refine blk_put (cs := #[.int .i64 0, .int .i64 0, .int .i64 x132002_1, .int .i64 x132003_1]) ?_ 2 _ rfl; (with_reducible repeat (first | refine bn_ ?_ _ | refine bw_ ?_ | refine ba_ ?_ _)); refine blk_put (cs := #[.int .i64 0, .int .i64 x132001_1, .int .i64 x132002_1, .int .i64 x132003_1]) ?_ 1 _ rfl; (with_reducible repeat (first | refine bn_ ?_ _ | refine bw_ ?_ | refine ba_ ?_ _)); refine blk_put (cs := #[.int .i64 x132000_1, .int .i64 x132001_1, .int .i64 x132002_1, .int .i64 x132003_1]) ?_ 0 _ rfl; (with_reducible repeat (first | refine bn_ ?_ _ | refine bw_ ?_ | refine ba_ ?_ _)); exact BK131.out) Try.underlying51 rfl (by kernel_rfl)) rfl ?_
      exact ⟨by first | rfl | (simp [errW_none, errW_some] <;> rfl) | (simp [*, errW_none, errW_some] <;> rfl), us_ HB.out⟩
     subst c8
     have H1 : (if 0 ≤ x6_1 then (if x6_1 < (l0.length : Int) then ((spec_RouteFits.f ((rd_T51 l0 x6_1).f0) ((rd_T51 l0 x6_1).f1) ((rd_T51 l0 x6_1).f2) ((rd_T51 l0 x6_1).f3) a1).bind fun t134 => (if t134 = true then (some ((rd_T51 l0 x6_1).f0, (rd_T51 l0 x6_1).f1, (rd_T51 l0 x6_1).f2, (rd_T51 l0 x6_1).f3, true)) else (spec_RouteTo.l0 kj3 l0 a1 (wrap64 (x6_1 - 1))))) else (none)) else (none)) = some (r1, r2, r3, r4, r5) := by rw [if_pos rfl] at H; exact H
     clear H
     have H := H1
     clear H1
     by_cases c9 : 0 ≤ x6_1
     rotate_left
     ·rw [if_neg c9] at H
      exact absurd H (by simp)
     rw [if_pos c9] at H
     have c9b0 : decide (0 ≤ x6_1) = true := decide_eq_true c9
     clear c9
     by_cases c10 : x6_1 < (l0.length : Int)
     rotate_left
     ·rw [if_neg c10] at H
      exact absurd H (by simp)
     rw [if_pos c10] at H
     have c10b0 : decide (x6_1 < (l0.length : Int)) = true := decide_eq_true c10
     clear c10
     replace H := Option.bind_eq_some_iff.mp H
     obtain ⟨t134, A110, H⟩ := H
     replace H : (if t134 = true then (some ((rd_T51 l0 x6_1).f0, (rd_T51 l0 x6_1).f1, (rd_T51 l0 x6_1).f2, (rd_T51 l0 x6_1).f3, true)) else (spec_RouteTo.l0 kj3 l0 a1 (wrap64 (x6_1 - 1)))) = some (r1, r2, r3, r4, r5) := H
     have A11 := mk_ A110
     clear A110
     by_cases c12 : t134 = true
     ·subst c12
      have H1 : (some ((rd_T51 l0 x6_1).f0, (rd_T51 l0 x6_1).f1, (rd_T51 l0 x6_1).f2, (rd_T51 l0 x6_1).f3, true)) = some (r1, r2, r3, r4, r5) := by rw [if_pos rfl] at H; exact H
      clear H
      have H := H1
      clear H1
      simp only [Option.some.injEq, Prod.mk.injEq] at H
      obtain ⟨rfl, rfl, rfl, rfl, rfl⟩ := H
      have p133 : 0 ≤ (x6_1 : Int) := of_decide_eq_true (by first | (with_reducible assumption) | assumption)
      have q133 : x6_1 < (l0.length : Int) := of_decide_eq_true (by first | (with_reducible assumption) | assumption)
      obtain ⟨ad133, e133, hx133_0, hx133_1, hx133_2, hx133_3⟩ := at_T51 HR0.out x6_1 p133 q133
      cases e133
      replace hx133_0 := (HB.out.cell (lc_ w _ hx133_0)).trans hx133_0
      replace hx133_1 := (HB.out.cell (lc_ w _ hx133_1)).trans hx133_1
      replace hx133_2 := (HB.out.cell (lc_ w _ hx133_2)).trans hx133_2
      replace hx133_3 := (HB.out.cell (lc_ w _ hx133_3)).trans hx133_3
      replace p133 := eq_true p133
      replace q133 := eq_true q133
      go_wp2_with (first | ((with_reducible refine gate_callee (f := 109) rfl ?_); refine goesL_ (some 23) rfl rfl Try.func109 (by kernel_rfl) rfl #[.agg #[.int .i64 ((rd_T51 l0 x6_1).f0), .int .i64 ((rd_T51 l0 x6_1).f1), .int .i64 ((rd_T51 l0 x6_1).f2), .int .i64 ((rd_T51 l0 x6_1).f3)], .int .i64 a1] rfl (by (try simp only [lm_, lo_, ln_]); first | done | rfl | (simp only [List.length_drop, List.length_take]; rfl)) ?_; (with_reducible refine (spec_RouteFits.calls ((rd_T51 l0 x6_1).f0) ((rd_T51 l0 x6_1).f1) ((rd_T51 l0 x6_1).f2) ((rd_T51 l0 x6_1).f3) a1 true _ A11.out).mono ?_); rintro e w13 ⟨rfl, hb⟩; refine ⟨_, rfl, ?_⟩; have n0_ := mk_ (blk_below (u_ BK131.out) hb); have n1_ := mk_ (below_step (us_ HB.out) hb); clear BK131; clear HB; have BK131 := n0_; have HB := n1_; clear n0_ n1_; (try clear hb); (try clear hb2); (try clear hk); (try clear hi); have p135 : 0 ≤ (x6_1 : Int) := of_decide_eq_true (by first | (with_reducible assumption) | assumption); have q135 : x6_1 < (l0.length : Int) := of_decide_eq_true (by first | (with_reducible assumption) | assumption); obtain ⟨ad135, e135, hx135_0, hx135_1, hx135_2, hx135_3⟩ := at_T51 HR0.out x6_1 p135 q135; obtain rfl : ad133 = ad135 := (by injection e135); replace hx135_0 := (HB.out.cell (lc_ w _ hx135_0)).trans hx135_0; replace hx135_1 := (HB.out.cell (lc_ w _ hx135_1)).trans hx135_1; replace hx135_2 := (HB.out.cell (lc_ w _ hx135_2)).trans hx135_2; replace hx135_3 := (HB.out.cell (lc_ w _ hx135_3)).trans hx135_3; replace p135 := eq_true p135; replace q135 := eq_true q135; obtain ⟨hcz14_0, hcz14_1, hcz14_2, hcz14_3, hfz14_0, hfz14_1, hfz14_2, hfz14_3⟩ := cells4_ BK131.out))
      refine bodyPost_ret (results_ct rfl _ _ gb131 51 #[.int .i64 ((rd_T51 l0 x6_1).f0), .int .i64 ((rd_T51 l0 x6_1).f1), .int .i64 ((rd_T51 l0 x6_1).f2), .int .i64 ((rd_T51 l0 x6_1).f3)] (0, 0) _ rfl (by (with_reducible repeat (first | refine bn_ ?_ _ | refine bw_ ?_ | refine ba_ ?_ _)); refine blk_put (cs := #[.int .i64 ((rd_T51 l0 x6_1).f0), .int .i64 ((rd_T51 l0 x6_1).f1), .int .i64 ((rd_T51 l0 x6_1).f2), .int .i64 x132003_1]) ?_ 3 _ rfl; (with_reducible repeat (first | refine bn_ ?_ _ | refine bw_ ?_ | refine ba_ ?_ _)); refine blk_put (cs := #[.int .i64 ((rd_T51 l0 x6_1).f0), .int .i64 ((rd_T51 l0 x6_1).f1), .int .i64 x132002_1, .int .i64 x132003_1]) ?_ 2 _ rfl; (with_reducible repeat (first | refine bn_ ?_ _ | refine bw_ ?_ | refine ba_ ?_ _)); refine blk_put (cs := #[.int .i64 ((rd_T51 l0 x6_1).f0), .int .i64 x132001_1, .int .i64 x132002_1, .int .i64 x132003_1]) ?_ 1 _ rfl; (with_reducible repeat (first | refine bn_ ?_ _ | refine bw_ ?_ | refine ba_ ?_ _)); refine blk_put (cs := #[.int .i64 x132000_1, .int .i64 x132001_1, .int .i64 x132002_1, .int .i64 x132003_1]) ?_ 0 _ rfl; (with_reducible repeat (first | refine bn_ ?_ _ | refine bw_ ?_ | refine ba_ ?_ _)); exact BK131.out) Try.underlying51 rfl (by kernel_rfl)) rfl ?_
      exact ⟨by first | rfl | (simp [errW_none, errW_some] <;> rfl) | (simp [*, errW_none, errW_some] <;> rfl), us_ HB.out⟩
     replace c12 := Bool.eq_false_iff.mpr c12
     subst c12
     have H1 : (spec_RouteTo.l0 kj3 l0 a1 (wrap64 (x6_1 - 1))) = some (r1, r2, r3, r4, r5) := by rw [if_neg (show ¬ (false = true) by decide)] at H; exact H
     clear H
     have H := H1
     clear H1
     have H' := mk_ H
     clear H
     have p133 : 0 ≤ (x6_1 : Int) := of_decide_eq_true (by first | (with_reducible assumption) | assumption)
     have q133 : x6_1 < (l0.length : Int) := of_decide_eq_true (by first | (with_reducible assumption) | assumption)
     obtain ⟨ad133, e133, hx133_0, hx133_1, hx133_2, hx133_3⟩ := at_T51 HR0.out x6_1 p133 q133
     cases e133
     replace hx133_0 := (HB.out.cell (lc_ w _ hx133_0)).trans hx133_0
     replace hx133_1 := (HB.out.cell (lc_ w _ hx133_1)).trans hx133_1
     replace hx133_2 := (HB.out.cell (lc_ w _ hx133_2)).trans hx133_2
     replace hx133_3 := (HB.out.cell (lc_ w _ hx133_3)).trans hx133_3
     replace p133 := eq_true p133
     replace q133 := eq_true q133
     go_wp2_with (first | ((with_reducible refine gate_callee (f := 109) rfl ?_); refine goesL_ (some 23) rfl rfl Try.func109 (by kernel_rfl) rfl #[.agg #[.int .i64 ((rd_T51 l0 x6_1).f0), .int .i64 ((rd_T51 l0 x6_1).f1), .int .i64 ((rd_T51 l0 x6_1).f2), .int .i64 ((rd_T51 l0 x6_1).f3)], .int .i64 a1] rfl (by (try simp only [lm_, lo_, ln_]); first | done | rfl | (simp only [List.length_drop, List.length_take]; rfl)) ?_; (with_reducible refine (spec_RouteFits.calls ((rd_T51 l0 x6_1).f0) ((rd_T51 l0 x6_1).f1) ((rd_T51 l0 x6_1).f2) ((rd_T51 l0 x6_1).f3) a1 false _ A11.out).mono ?_); rintro e w15 ⟨rfl, hb⟩; refine ⟨_, rfl, ?_⟩; have n0_ := mk_ (blk_below (u_ BK131.out) hb); have n1_ := mk_ (below_step (us_ HB.out) hb); clear BK131; clear HB; have BK131 := n0_; have HB := n1_; clear n0_ n1_; (try clear hb); (try clear hb2); (try clear hk); (try clear hi)))
     go_roundg kj3
     case measure => have := HK1.out; have := HJ3.out; omega
     case rel => exact ⟨(wrap64 (x6_1 - 1)), (x132000_1), (x132001_1), (x132002_1), (x132003_1), (by first | rfl | (simp; done) | (simp [*]; done)), H', ⟨by have := HK1.out; have := HJ3.out; omega⟩, ⟨u_ BK131.out⟩, ⟨us_ HB.out⟩⟩

/-! ### spec_l8At: function 63 -/
def spec_l8At.l0 : Nat → List (S56) → Int → Int → Option (Int)
 | 0, _, _, _ => none
 | k + 1, x0, x1, x5 => if x5 < (x0.length : Int) then (if 0 ≤ x5 then (if ((rd_T56 x0 x5).f0) = x1 then (some x5) else (spec_l8At.l0 k x0 x1 (wrap64 (x5 + 1)))) else (none)) else (some (-1))
def spec_l8At.f (k : Nat) (l0 : List (S56)) (a1 : Int) : Option (Int) := spec_l8At.l0 k l0 a1 0
theorem spec_l8At.mono_l : ∀ k, (∀ y0 y1 y2, LeO (spec_l8At.l0 k y0 y1 y2) (spec_l8At.l0 (k + 1) y0 y1 y2))
 | 0 => fun _ _ _ r h => by simp [spec_l8At.l0] at h
 | k + 1 => by
  have ih0 := spec_l8At.mono_l k
  ·intro y0 y1 y2
   unfold spec_l8At.l0
   repeat' first
   | (with_reducible exact ih0 _ _ _)
   | (with_reducible exact LeO.refl _)
   | (with_reducible exact LeO.none _)
   | (with_reducible refine LeO.ite ?_ ?_)
   | (with_reducible refine LeO.bind ?_ (fun _ => ?_))
   | exact ih0 _ _ _
   | exact LeO.none _
   | refine LeO.ite ?_ ?_
   | refine LeO.bind ?_ (fun _ => ?_)
theorem spec_l8At.mono : ∀ a0 a1 k, LeO (spec_l8At.f k a0 a1) (spec_l8At.f (k + 1) a0 a1) := by
 intro a0 a1 k
 have ih0 := spec_l8At.mono_l k
 unfold spec_l8At.f
 repeat' first
   | (with_reducible exact ih0 _ _ _)
   | (with_reducible exact LeO.refl _)
   | (with_reducible exact LeO.none _)
   | (with_reducible refine LeO.ite ?_ ?_)
   | (with_reducible refine LeO.bind ?_ (fun _ => ?_))
   | exact ih0 _ _ _
   | exact LeO.none _
   | refine LeO.ite ?_ ?_
   | refine LeO.bind ?_ (fun _ => ?_)
set_option maxHeartbeats 8000000 in
set_option maxRecDepth 100000 in
theorem spec_l8At.calls (k : Nat) (A0 : Option Addr) (c0 : Nat) (l0 : List (S56)) (a1 : Int) (r : Int) (w : World) (hr0 : Kd.C k56 w A0 l0.length l0) (hc0 : l0.length ≤ c0) (h : spec_l8At.f k l0 a1 = some r) :
  Calls Try.prog 63 #[.slice A0 l0.length c0, .int .i64 a1] w fun e w' => e = .returned (.int .i64 r) ∧ Drawn0 w w' := by
 have HR0 := mk_ hr0
 have HC0 := mk_ hc0
 clear hr0 hc0
 have H : (spec_l8At.l0 k l0 a1 0) = some r := h
 clear h
 have H' := mk_ H
 clear H
 go_enter Try.func63, Try.ntmps63
 go_wp2
 go_loopg [5] k (fun kq v5 w' => ∃ (x5_1 : Int), v5 = .int .i64 x5_1 ∧ Aside0 (spec_l8At.l0 kq l0 a1 x5_1 = some r) ∧ Aside0 (kq ≤ k) ∧ Drawn0 w w')
 case atStart => exact ⟨(0), (by first | rfl | (simp; done) | (simp [*]; done)), H', ⟨Nat.le_refl _⟩, by repeat (first | exact Drawn0.refl _ | apply Drawn0.step)⟩
 case round =>
  clear H'
  try clear p2
  obtain ⟨x5_1, rfl, HA, HK1, ⟨m1, rfl⟩⟩ := hrel
  cases gk with
  | zero => exact absurd HA.out (by simp [spec_l8At.l0])
  | succ k1 =>
   have H := HA.out
   clear HA
   simp only [spec_l8At.l0] at H
   by_cases c3 : x5_1 < (l0.length : Int)
   rotate_left
   ·rw [if_neg c3] at H
    have c3b0 : decide (x5_1 < (l0.length : Int)) = false := decide_eq_false c3
    clear c3
    obtain rfl := Option.some.inj H
    go_wp2
    go_ret
    exact ⟨by first | rfl | (simp; done) | (simp [*]; done), by repeat (first | exact Drawn0.refl _ | apply Drawn0.step)⟩
   rw [if_pos c3] at H
   have c3b0 : decide (x5_1 < (l0.length : Int)) = true := decide_eq_true c3
   clear c3
   by_cases c4 : 0 ≤ x5_1
   rotate_left
   ·rw [if_neg c4] at H
    exact absurd H (by simp)
   rw [if_pos c4] at H
   have c4b0 : decide (0 ≤ x5_1) = true := decide_eq_true c4
   clear c4
   by_cases c5 : ((rd_T56 l0 x5_1).f0) = a1
   ·rw [if_pos c5] at H
    have c5b0 : (((rd_T56 l0 x5_1).f0) == a1) = true := beq_iff_eq.mpr c5
    have c5b1 : (((rd_T56 l0 x5_1).f0) != a1) = false := bne_eq_false_iff_eq.mpr c5
    clear c5
    obtain rfl := Option.some.inj H
    have p136 : 0 ≤ (x5_1 : Int) := of_decide_eq_true (by first | (with_reducible assumption) | assumption)
    have q136 : x5_1 < (l0.length : Int) := of_decide_eq_true (by first | (with_reducible assumption) | assumption)
    obtain ⟨ad136, A136_1, c136_1, e136, hx136_0, hx136_1, hl136_1, hi136_1⟩ := at_T56 HR0.out x5_1 p136 q136
    cases e136
    have HR136_1 := mk_ hi136_1
    have HC136_1 := mk_ hl136_1
    clear hi136_1 hl136_1
    replace p136 := eq_true p136
    replace q136 := eq_true q136
    go_wp2
    go_ret
    exact ⟨by first | rfl | (simp; done) | (simp [*]; done), by repeat (first | exact Drawn0.refl _ | apply Drawn0.step)⟩
   rw [if_neg c5] at H
   have c5b0 : (((rd_T56 l0 x5_1).f0) == a1) = false := beq_eq_false_iff_ne.mpr c5
   have c5b1 : (((rd_T56 l0 x5_1).f0) != a1) = true := bne_iff_ne.mpr c5
   have H' := mk_ H
   clear H
   have p136 : 0 ≤ (x5_1 : Int) := of_decide_eq_true (by first | (with_reducible assumption) | assumption)
   have q136 : x5_1 < (l0.length : Int) := of_decide_eq_true (by first | (with_reducible assumption) | assumption)
   obtain ⟨ad136, A136_1, c136_1, e136, hx136_0, hx136_1, hl136_1, hi136_1⟩ := at_T56 HR0.out x5_1 p136 q136
   cases e136
   have HR136_1 := mk_ hi136_1
   have HC136_1 := mk_ hl136_1
   clear hi136_1 hl136_1
   replace p136 := eq_true p136
   replace q136 := eq_true q136
   go_wp2
   go_roundg k1
   case measure => have := HK1.out; omega
   case rel => exact ⟨(wrap64 (x5_1 + 1)), (by first | rfl | (simp; done) | (simp [*]; done)), H', ⟨by have := HK1.out; omega⟩, by repeat (first | exact Drawn0.refl _ | apply Drawn0.step)⟩

/-! ### spec_PathRoom: function 22 -/
mutual
def spec_PathRoom.j0 : Nat → List (S56) → Int → Int → Bool → Option (Int)
 | 0, _, _, _, _ => none
 | k + 1, x0, x1, x2, x28 => if x28 = true then (some 0) else (spec_PathRoom.l0 k x0 x2 48 x1 0)
def spec_PathRoom.l0 : Nat → List (S56) → Int → Int → Int → Int → Option (Int)
 | 0, _, _, _, _, _ => none
 | k + 1, x0, x2, x7, x8, x9 => if x9 ≤ (x0.length : Int) then (if 0 ≤ x8 then (if x8 < (x0.length : Int) then (if ((rd_T56 x0 x8).f0) = x2 then (some x7) else ((spec_RouteTo.f k ((rd_T56 x0 x8).f1) x2).bind fun bt142 => ((spec_l8At.f k x0 bt142.2.2.1).bind fun t148 => (if bt142.2.2.2.2 = true then (if t148 < 0 then (some 0) else (spec_PathRoom.l0 k x0 x2 (mn x7 bt142.2.2.2.1) t148 (wrap64 (x9 + 1)))) else (some 0))))) else (none)) else (none)) else (some 0)
end
def spec_PathRoom.f (k : Nat) (l0 : List (S56)) (a1 : Int) (a2 : Int) : Option (Int) := (spec_NetOk.f k l0).bind fun t137 => (if t137 = true then ((spec_l1In.f a1 0 (wrap64 ((l0.length : Int) - 1))).bind fun t138 => (if t138 = true then ((spec_l1In.f a2 0 65535).bind fun t139 => (spec_PathRoom.j0 k l0 a1 a2 (!t139))) else (spec_PathRoom.j0 k l0 a1 a2 true))) else (spec_PathRoom.j0 k l0 a1 a2 true))
theorem spec_PathRoom.mono_l : ∀ k, (∀ y0 y1 y2 y3, LeO (spec_PathRoom.j0 k y0 y1 y2 y3) (spec_PathRoom.j0 (k + 1) y0 y1 y2 y3)) ∧ (∀ y0 y1 y2 y3 y4, LeO (spec_PathRoom.l0 k y0 y1 y2 y3 y4) (spec_PathRoom.l0 (k + 1) y0 y1 y2 y3 y4))
 | 0 => ⟨fun _ _ _ _ r h => by simp [spec_PathRoom.j0] at h, fun _ _ _ _ _ r h => by simp [spec_PathRoom.l0] at h⟩
 | k + 1 => by
  obtain ⟨ih0, ih1⟩ := spec_PathRoom.mono_l k
  refine ⟨?_, ?_⟩
  ·intro y0 y1 y2 y3
   unfold spec_PathRoom.j0
   repeat' first
   | (with_reducible exact ih0 _ _ _ _)
   | (with_reducible exact ih1 _ _ _ _ _)
   | (with_reducible exact spec_NetOk.mono _ _)
   | (with_reducible exact spec_RouteTo.mono _ _ _)
   | (with_reducible exact spec_l8At.mono _ _ _)
   | (with_reducible exact LeO.refl _)
   | (with_reducible exact LeO.none _)
   | (with_reducible refine LeO.ite ?_ ?_)
   | (with_reducible refine LeO.bind ?_ (fun _ => ?_))
   | exact ih0 _ _ _ _
   | exact ih1 _ _ _ _ _
   | exact spec_NetOk.mono _ _
   | exact spec_RouteTo.mono _ _ _
   | exact spec_l8At.mono _ _ _
   | exact LeO.none _
   | refine LeO.ite ?_ ?_
   | refine LeO.bind ?_ (fun _ => ?_)
  ·intro y0 y1 y2 y3 y4
   unfold spec_PathRoom.l0
   repeat' first
   | (with_reducible exact ih0 _ _ _ _)
   | (with_reducible exact ih1 _ _ _ _ _)
   | (with_reducible exact spec_NetOk.mono _ _)
   | (with_reducible exact spec_RouteTo.mono _ _ _)
   | (with_reducible exact spec_l8At.mono _ _ _)
   | (with_reducible exact LeO.refl _)
   | (with_reducible exact LeO.none _)
   | (with_reducible refine LeO.ite ?_ ?_)
   | (with_reducible refine LeO.bind ?_ (fun _ => ?_))
   | exact ih0 _ _ _ _
   | exact ih1 _ _ _ _ _
   | exact spec_NetOk.mono _ _
   | exact spec_RouteTo.mono _ _ _
   | exact spec_l8At.mono _ _ _
   | exact LeO.none _
   | refine LeO.ite ?_ ?_
   | refine LeO.bind ?_ (fun _ => ?_)
theorem spec_PathRoom.mono : ∀ a0 a1 a2 k, LeO (spec_PathRoom.f k a0 a1 a2) (spec_PathRoom.f (k + 1) a0 a1 a2) := by
 intro a0 a1 a2 k
 obtain ⟨ih0, ih1⟩ := spec_PathRoom.mono_l k
 unfold spec_PathRoom.f
 repeat' first
   | (with_reducible exact ih0 _ _ _ _)
   | (with_reducible exact ih1 _ _ _ _ _)
   | (with_reducible exact spec_NetOk.mono _ _)
   | (with_reducible exact spec_RouteTo.mono _ _ _)
   | (with_reducible exact spec_l8At.mono _ _ _)
   | (with_reducible exact LeO.refl _)
   | (with_reducible exact LeO.none _)
   | (with_reducible refine LeO.ite ?_ ?_)
   | (with_reducible refine LeO.bind ?_ (fun _ => ?_))
   | exact ih0 _ _ _ _
   | exact ih1 _ _ _ _ _
   | exact spec_NetOk.mono _ _
   | exact spec_RouteTo.mono _ _ _
   | exact spec_l8At.mono _ _ _
   | exact LeO.none _
   | refine LeO.ite ?_ ?_
   | refine LeO.bind ?_ (fun _ => ?_)
set_option maxHeartbeats 8000000 in
set_option maxRecDepth 100000 in
theorem spec_PathRoom.calls (k : Nat) (A0 : Option Addr) (c0 : Nat) (l0 : List (S56)) (a1 : Int) (a2 : Int) (r : Int) (w : World) (hr0 : Kd.C k56 w A0 l0.length l0) (hc0 : l0.length ≤ c0) (h : spec_PathRoom.f k l0 a1 a2 = some r) :
  Calls Try.prog 22 #[.slice A0 l0.length c0, .int .i64 a1, .int .i64 a2] w fun e w' => e = .returned (.int .i64 r) ∧ Below w.heap.size w w' := by
 have hu51 := Try.underlying51
 have HR0 := mk_ hr0
 have HC0 := mk_ hc0
 clear hr0 hc0
 have HB := mk_ (Below.refl w.heap.size w)
 have H : ((spec_NetOk.f k l0).bind fun t137 => (if t137 = true then ((spec_l1In.f a1 0 (wrap64 ((l0.length : Int) - 1))).bind fun t138 => (if t138 = true then ((spec_l1In.f a2 0 65535).bind fun t139 => (spec_PathRoom.j0 k l0 a1 a2 (!t139))) else (spec_PathRoom.j0 k l0 a1 a2 true))) else (spec_PathRoom.j0 k l0 a1 a2 true))) = some r := h
 clear h
 have HC4 := mk_ H
 clear H
 go_enter Try.func22, Try.ntmps22
 go_upto_region 1 with (fail)
 go_cut [28] (fun v28 wc => ∃ (kq : Nat) (x28_3 : Bool), v28 = .bool x28_3 ∧ Aside0 (spec_PathRoom.j0 kq l0 a1 a2 x28_3 = some r) ∧ Aside0 (kq ≤ k) ∧ Aside0 (Below w.heap.size w wc))
 case first =>
  have H := HC4.out
  clear HC4
  replace H := Option.bind_eq_some_iff.mp H
  obtain ⟨t137, A50, H⟩ := H
  replace H : (if t137 = true then ((spec_l1In.f a1 0 (wrap64 ((l0.length : Int) - 1))).bind fun t138 => (if t138 = true then ((spec_l1In.f a2 0 65535).bind fun t139 => (spec_PathRoom.j0 k l0 a1 a2 (!t139))) else (spec_PathRoom.j0 k l0 a1 a2 true))) else (spec_PathRoom.j0 k l0 a1 a2 true)) = some r := H
  have A5 := mk_ A50
  clear A50
  by_cases c6 : t137 = true
  rotate_left
  ·replace c6 := Bool.eq_false_iff.mpr c6
   subst c6
   have H1 : (spec_PathRoom.j0 k l0 a1 a2 true) = some r := by rw [if_neg (show ¬ (false = true) by decide)] at H; exact H
   clear H
   have H := H1
   clear H1
   have H' := mk_ H
   clear H
   go_wp2_with (first | ((with_reducible refine gate_callee (f := 61) rfl ?_); refine goesL_ (some 14) rfl rfl Try.func61 (by kernel_rfl) rfl #[.slice A0 l0.length c0] rfl (by (try simp only [lm_, lo_, ln_]); first | done | rfl | (simp only [List.length_drop, List.length_take]; rfl)) ?_; (with_reducible refine (spec_NetOk.calls k _ _ l0 false _ ?side1 ?side2 A5.out).mono ?_); (case side1 => repeat (first | exact (Kd.C_below HR0.out HB.out) | (with_reducible refine Kd.C_alloc ?_ _) | (with_reducible refine Kd.C_drewN ?_ _) | (with_reducible refine Kd.C_drew ?_))); (case side2 => exact HC0.out); rintro e w12 ⟨rfl, hb⟩; refine ⟨_, rfl, ?_⟩; have n0_ := mk_ (below_step (ub_ HB.out) hb); clear HB; have HB := n0_; clear n0_; (try clear hb); (try clear hb2); (try clear hk); (try clear hi)))
   go_meet
   case rel => exact ⟨_, (true), (by first | rfl | (simp; done) | (simp [*]; done)), H', ⟨by first | omega | exact Nat.le_refl _⟩, ⟨ub_ HB.out⟩⟩
  subst c6
  have H1 : ((spec_l1In.f a1 0 (wrap64 ((l0.length : Int) - 1))).bind fun t138 => (if t138 = true then ((spec_l1In.f a2 0 65535).bind fun t139 => (spec_PathRoom.j0 k l0 a1 a2 (!t139))) else (spec_PathRoom.j0 k l0 a1 a2 true))) = some r := by rw [if_pos rfl] at H; exact H
  clear H
  have H := H1
  clear H1
  replace H := Option.bind_eq_some_iff.mp H
  obtain ⟨t138, A70, H⟩ := H
  replace H : (if t138 = true then ((spec_l1In.f a2 0 65535).bind fun t139 => (spec_PathRoom.j0 k l0 a1 a2 (!t139))) else (spec_PathRoom.j0 k l0 a1 a2 true)) = some r := H
  have A7 := mk_ A70
  clear A70
  by_cases c8 : t138 = true
  rotate_left
  ·replace c8 := Bool.eq_false_iff.mpr c8
   subst c8
   have H1 : (spec_PathRoom.j0 k l0 a1 a2 true) = some r := by rw [if_neg (show ¬ (false = true) by decide)] at H; exact H
   clear H
   have H := H1
   clear H1
   have H' := mk_ H
   clear H
   go_wp2_with (first | ((with_reducible refine gate_callee (f := 61) rfl ?_); refine goesL_ (some 14) rfl rfl Try.func61 (by kernel_rfl) rfl #[.slice A0 l0.length c0] rfl (by (try simp only [lm_, lo_, ln_]); first | done | rfl | (simp only [List.length_drop, List.length_take]; rfl)) ?_; (with_reducible refine (spec_NetOk.calls k _ _ l0 true _ ?side1 ?side2 A5.out).mono ?_); (case side1 => repeat (first | exact (Kd.C_below HR0.out HB.out) | (with_reducible refine Kd.C_alloc ?_ _) | (with_reducible refine Kd.C_drewN ?_ _) | (with_reducible refine Kd.C_drew ?_))); (case side2 => exact HC0.out); rintro e w11 ⟨rfl, hb⟩; refine ⟨_, rfl, ?_⟩; have n0_ := mk_ (below_step (ub_ HB.out) hb); clear HB; have HB := n0_; clear n0_; (try clear hb); (try clear hb2); (try clear hk); (try clear hi)) | (go_at_call 52; (with_reducible refine (spec_l1In.calls a1 0 (wrap64 ((l0.length : Int) - 1)) false _ A7.out).mono ?_); rintro e w' ⟨rfl, ⟨nd, rfl⟩⟩))
   go_meet
   case rel => exact ⟨_, (true), (by first | rfl | (simp; done) | (simp [*]; done)), H', ⟨by first | omega | exact Nat.le_refl _⟩, ⟨ub_ HB.out⟩⟩
  subst c8
  have H1 : ((spec_l1In.f a2 0 65535).bind fun t139 => (spec_PathRoom.j0 k l0 a1 a2 (!t139))) = some r := by rw [if_pos rfl] at H; exact H
  clear H
  have H := H1
  clear H1
  replace H := Option.bind_eq_some_iff.mp H
  obtain ⟨t139, A90, H⟩ := H
  replace H : (spec_PathRoom.j0 k l0 a1 a2 (!t139)) = some r := H
  have A9 := mk_ A90
  clear A90
  have H' := mk_ H
  clear H
  go_wp2_with (first | ((with_reducible refine gate_callee (f := 61) rfl ?_); refine goesL_ (some 14) rfl rfl Try.func61 (by kernel_rfl) rfl #[.slice A0 l0.length c0] rfl (by (try simp only [lm_, lo_, ln_]); first | done | rfl | (simp only [List.length_drop, List.length_take]; rfl)) ?_; (with_reducible refine (spec_NetOk.calls k _ _ l0 true _ ?side1 ?side2 A5.out).mono ?_); (case side1 => repeat (first | exact (Kd.C_below HR0.out HB.out) | (with_reducible refine Kd.C_alloc ?_ _) | (with_reducible refine Kd.C_drewN ?_ _) | (with_reducible refine Kd.C_drew ?_))); (case side2 => exact HC0.out); rintro e w10 ⟨rfl, hb⟩; refine ⟨_, rfl, ?_⟩; have n0_ := mk_ (below_step (ub_ HB.out) hb); clear HB; have HB := n0_; clear n0_; (try clear hb); (try clear hb2); (try clear hk); (try clear hi)) | (go_at_call 52; have hA_ := A7.out; (with_reducible refine (spec_l1In.calls a1 0 (wrap64 ((l0.length : Int) - 1)) true _ A7.out).mono ?_); rintro e w' ⟨rfl, ⟨nd, rfl⟩⟩; clear hA_ A7) | (go_at_call 52; have hA_ := A9.out; (with_reducible refine (spec_l1In.calls a2 0 65535 t139 _ A9.out).mono ?_); rintro e w' ⟨rfl, ⟨nd, rfl⟩⟩; clear hA_ A9))
  go_meet
  case rel => exact ⟨_, (!t139), (by first | rfl | (simp; done) | (simp [*]; done)), H', ⟨by first | omega | exact Nat.le_refl _⟩, ⟨ub_ HB.out⟩⟩
 case rest =>
  clear HC4
  try clear c2
  try clear p2
  try clear c6
  try clear p6
  try clear c8
  obtain ⟨kq, x28_3, rfl, HA, HJ3, HB⟩ := hcut
  cases kq with
  | zero => exact absurd HA.out (by simp [spec_PathRoom.j0])
  | succ kj3 =>
   have H := HA.out
   clear HA
   simp only [spec_PathRoom.j0] at H
   by_cases c13 : x28_3 = true
   ·subst c13
    have H1 : (some 0) = some r := by rw [if_pos rfl] at H; exact H
    clear H
    have H := H1
    clear H1
    obtain rfl := Option.some.inj H
    go_wp2
    go_ret
    exact ⟨by first | rfl | (simp [errW_none, errW_some] <;> rfl) | (simp [*, errW_none, errW_some] <;> rfl), by repeat (first | (with_reducible first | exact HB.out | apply na_ | apply nn_ | apply nw_) | exact HB.out)⟩
   replace c13 := Bool.eq_false_iff.mpr c13
   subst c13
   have H1 : (spec_PathRoom.l0 kj3 l0 a2 48 a1 0) = some r := by rw [if_neg (show ¬ (false = true) by decide)] at H; exact H
   clear H
   have H := H1
   clear H1
   have H' := mk_ H
   clear H
   go_wp2
   go_loopg [7, 8, 9] kj3 (fun kq v7 v8 v9 w' => ∃ (x7_2 : Int) (x8_2 : Int) (x9_2 : Int), v7 = .int .i64 x7_2 ∧ v8 = .int .i64 x8_2 ∧ v9 = .int .i64 x9_2 ∧ Aside0 (spec_PathRoom.l0 kq l0 a2 x7_2 x8_2 x9_2 = some r) ∧ Aside0 (kq ≤ kj3) ∧ Aside0 (Below w.heap.size w w'))
   case atStart => exact ⟨(48), (a1), (0), (by first | rfl | (simp; done) | (simp [*]; done)), (by first | rfl | (simp; done) | (simp [*]; done)), (by first | rfl | (simp; done) | (simp [*]; done)), H', ⟨Nat.le_refl _⟩, ⟨ub_ HB.out⟩⟩
   case round =>
    clear H'
    try clear c1
    try clear c2
    try clear p2
    try clear c6
    try clear p6
    try clear c8
    try clear c13
    try clear p2
    try clear p6
    obtain ⟨x7_2, x8_2, x9_2, rfl, rfl, rfl, HA, HK2, HB⟩ := hrel
    cases gk with
    | zero => exact absurd HA.out (by simp [spec_PathRoom.l0])
    | succ k2 =>
     have H := HA.out
     clear HA
     simp only [spec_PathRoom.l0] at H
     by_cases c14 : x9_2 ≤ (l0.length : Int)
     rotate_left
     ·rw [if_neg c14] at H
      have c14b0 : decide (x9_2 ≤ (l0.length : Int)) = false := decide_eq_false c14
      clear c14
      obtain rfl := Option.some.inj H
      go_wp2
      go_ret
      exact ⟨by first | rfl | (simp [errW_none, errW_some] <;> rfl) | (simp [*, errW_none, errW_some] <;> rfl), by repeat (first | (with_reducible first | exact HB.out | apply na_ | apply nn_ | apply nw_) | exact HB.out)⟩
     rw [if_pos c14] at H
     have c14b0 : decide (x9_2 ≤ (l0.length : Int)) = true := decide_eq_true c14
     clear c14
     by_cases c15 : 0 ≤ x8_2
     rotate_left
     ·rw [if_neg c15] at H
      exact absurd H (by simp)
     rw [if_pos c15] at H
     have c15b0 : decide (0 ≤ x8_2) = true := decide_eq_true c15
     clear c15
     by_cases c16 : x8_2 < (l0.length : Int)
     rotate_left
     ·rw [if_neg c16] at H
      exact absurd H (by simp)
     rw [if_pos c16] at H
     have c16b0 : decide (x8_2 < (l0.length : Int)) = true := decide_eq_true c16
     clear c16
     by_cases c17 : ((rd_T56 l0 x8_2).f0) = a2
     ·rw [if_pos c17] at H
      have c17b0 : (((rd_T56 l0 x8_2).f0) == a2) = true := beq_iff_eq.mpr c17
      have c17b1 : (((rd_T56 l0 x8_2).f0) != a2) = false := bne_eq_false_iff_eq.mpr c17
      clear c17
      obtain rfl := Option.some.inj H
      have p140 : 0 ≤ (x8_2 : Int) := of_decide_eq_true (by first | (with_reducible assumption) | assumption)
      have q140 : x8_2 < (l0.length : Int) := of_decide_eq_true (by first | (with_reducible assumption) | assumption)
      obtain ⟨ad140, A140_1, c140_1, e140, hx140_0, hx140_1, hl140_1, hi140_1⟩ := at_T56 HR0.out x8_2 p140 q140
      cases e140
      replace hx140_0 := (HB.out.cell (lc_ w _ hx140_0)).trans hx140_0
      replace hx140_1 := (HB.out.cell (lc_ w _ hx140_1)).trans hx140_1
      have HR140_1 := mk_ hi140_1
      have HC140_1 := mk_ hl140_1
      clear hi140_1 hl140_1
      replace p140 := eq_true p140
      replace q140 := eq_true q140
      go_wp2
      go_ret
      exact ⟨by first | rfl | (simp [errW_none, errW_some] <;> rfl) | (simp [*, errW_none, errW_some] <;> rfl), by repeat (first | (with_reducible first | exact HB.out | apply na_ | apply nn_ | apply nw_) | exact HB.out)⟩
     rw [if_neg c17] at H
     have c17b0 : (((rd_T56 l0 x8_2).f0) == a2) = false := beq_eq_false_iff_ne.mpr c17
     have c17b1 : (((rd_T56 l0 x8_2).f0) != a2) = true := bne_iff_ne.mpr c17
     replace H := Option.bind_eq_some_iff.mp H
     obtain ⟨⟨t142, t143, t144, t145, t146⟩, A180, H⟩ := H
     replace H : ((spec_l8At.f k2 l0 t144).bind fun t148 => (if t146 = true then (if t148 < 0 then (some 0) else (spec_PathRoom.l0 k2 l0 a2 (mn x7_2 t145) t148 (wrap64 (x9_2 + 1)))) else (some 0))) = some r := H
     have A18 := mk_ A180
     clear A180
     replace H := Option.bind_eq_some_iff.mp H
     obtain ⟨t148, A190, H⟩ := H
     replace H : (if t146 = true then (if t148 < 0 then (some 0) else (spec_PathRoom.l0 k2 l0 a2 (mn x7_2 t145) t148 (wrap64 (x9_2 + 1)))) else (some 0)) = some r := H
     have A19 := mk_ A190
     clear A190
     by_cases c20 : t146 = true
     rotate_left
     ·replace c20 := Bool.eq_false_iff.mpr c20
      subst c20
      have H1 : (some 0) = some r := by rw [if_neg (show ¬ (false = true) by decide)] at H; exact H
      clear H
      have H := H1
      clear H1
      obtain rfl := Option.some.inj H
      have p140 : 0 ≤ (x8_2 : Int) := of_decide_eq_true (by first | (with_reducible assumption) | assumption)
      have q140 : x8_2 < (l0.length : Int) := of_decide_eq_true (by first | (with_reducible assumption) | assumption)
      obtain ⟨ad140, A140_1, c140_1, e140, hx140_0, hx140_1, hl140_1, hi140_1⟩ := at_T56 HR0.out x8_2 p140 q140
      cases e140
      replace hx140_0 := (HB.out.cell (lc_ w _ hx140_0)).trans hx140_0
      replace hx140_1 := (HB.out.cell (lc_ w _ hx140_1)).trans hx140_1
      have HR140_1 := mk_ hi140_1
      have HC140_1 := mk_ hl140_1
      clear hi140_1 hl140_1
      replace p140 := eq_true p140
      replace q140 := eq_true q140
      have p141 : 0 ≤ (x8_2 : Int) := of_decide_eq_true (by first | (with_reducible assumption) | assumption)
      have q141 : x8_2 < (l0.length : Int) := of_decide_eq_true (by first | (with_reducible assumption) | assumption)
      obtain ⟨ad141, A141_1, c141_1, e141, hx141_0, hx141_1, hl141_1, hi141_1⟩ := at_T56 HR0.out x8_2 p141 q141
      obtain rfl : ad140 = ad141 := (by injection e141)
      replace hx141_0 := (HB.out.cell (lc_ w _ hx141_0)).trans hx141_0
      replace hx141_1 := (HB.out.cell (lc_ w _ hx141_1)).trans hx141_1
      have HR141_1 := mk_ hi141_1
      have HC141_1 := mk_ hl141_1
      clear hi141_1 hl141_1
      replace p141 := eq_true p141
      replace q141 := eq_true q141
      have ea_ := Option.some.inj (hx140_1.symm.trans hx141_1)
      injection ea_ with ea_ en_ ec_
      subst ea_
      subst ec_
      clear en_
      go_wp2_with (first | ((with_reducible refine gate_callee (f := 62) rfl ?_); refine goesL_ (some 51) rfl rfl Try.func62 (by kernel_rfl) rfl #[.slice A140_1 ((rd_T56 l0 x8_2).f1).length c140_1, .int .i64 a2] rfl (by (try simp only [lm_, lo_, ln_]); first | done | rfl | (simp only [List.length_drop, List.length_take]; rfl)) ?_; (with_reducible refine (spec_RouteTo.calls k2 _ _ ((rd_T56 l0 x8_2).f1) a2 t142 t143 t144 t145 false _ ?side1 ?side2 A18.out).mono ?_); (case side1 => repeat (first | exact (Kd.C_below HR141_1.out HB.out) | (with_reducible refine Kd.C_alloc ?_ _) | (with_reducible refine Kd.C_drewN ?_ _) | (with_reducible refine Kd.C_drew ?_))); (case side2 => exact HC141_1.out); rintro e w29 ⟨rfl, hb⟩; refine ⟨_, rfl, ?_⟩; have n0_ := mk_ (below_step (ub_ HB.out) hb); clear HB; have HB := n0_; clear n0_; (try clear hb); (try clear hb2); (try clear hk); (try clear hi)) | ((with_reducible refine gate_dst (N := 10) rfl ?_); refine box_event ?hg (N := 10) ?hd (cs := #[.int .i64 0, .int .i64 0, .int .i64 0, .int .i64 0]) (t := 51) ?hr ?_; (case hd => rfl); (case hg => rfl); (case hr => first | (go_simp; done) | (go_simp; rfl)); intro gb147 hg w30 hbox hb; have n0_ := mk_ (below_step (ub_ HB.out) hb); have n1_ := mk_ (hbox); have n2_ := mk_ ((by rw [hg]; exact (below_size (ub_ HB.out)) : w.heap.size ≤ gb147)); have n3_ := mk_ ((by rw [hg]; exact (below_size (ub_ HB.out)) : w.heap.size ≤ gb147)); clear HB; have HB := n0_; have BK147 := n1_; have GW147 := n2_; have GE147 := ge_ n3_.out; clear n0_ n1_ n2_ n3_; clear hb hbox hg; obtain ⟨hcz31_0, hcz31_1, hcz31_2, hcz31_3, hfz31_0, hfz31_1, hfz31_2, hfz31_3⟩ := cells4_ BK147.out) | ((with_reducible refine gate_callee (f := 63) rfl ?_); refine goesL_ (some 57) rfl rfl Try.func63 (by kernel_rfl) rfl #[.slice (some ad140) l0.length c0, .int .i64 t144] rfl (by (try simp only [lm_, lo_, ln_]); first | done | rfl | (simp only [List.length_drop, List.length_take]; rfl)) ?_; (with_reducible refine (spec_l8At.calls k2 _ _ l0 t144 t148 _ ?side1 ?side2 A19.out).mono ?_); (case side1 => exact Kd.C_below HR0.out (us_ HB.out)); (case side2 => exact HC0.out); rintro e w' ⟨rfl, ⟨nd, rfl⟩⟩; refine ⟨_, rfl, ?_⟩))
      go_ret
      exact ⟨by first | rfl | (simp [errW_none, errW_some] <;> rfl) | (simp [*, errW_none, errW_some] <;> rfl), us_ HB.out⟩
     subst c20
     have H1 : (if t148 < 0 then (some 0) else (spec_PathRoom.l0 k2 l0 a2 (mn x7_2 t145) t148 (wrap64 (x9_2 + 1)))) = some r := by rw [if_pos rfl] at H; exact H
     clear H
     have H := H1
     clear H1
     by_cases c21 : t148 < 0
     ·rw [if_pos c21] at H
      have c21b0 : decide (t148 < 0) = true := decide_eq_true c21
      clear c21
      obtain rfl := Option.some.inj H
      have p140 : 0 ≤ (x8_2 : Int) := of_decide_eq_true (by first | (with_reducible assumption) | assumption)
      have q140 : x8_2 < (l0.length : Int) := of_decide_eq_true (by first | (with_reducible assumption) | assumption)
      obtain ⟨ad140, A140_1, c140_1, e140, hx140_0, hx140_1, hl140_1, hi140_1⟩ := at_T56 HR0.out x8_2 p140 q140
      cases e140
      replace hx140_0 := (HB.out.cell (lc_ w _ hx140_0)).trans hx140_0
      replace hx140_1 := (HB.out.cell (lc_ w _ hx140_1)).trans hx140_1
      have HR140_1 := mk_ hi140_1
      have HC140_1 := mk_ hl140_1
      clear hi140_1 hl140_1
      replace p140 := eq_true p140
      replace q140 := eq_true q140
      have p141 : 0 ≤ (x8_2 : Int) := of_decide_eq_true (by first | (with_reducible assumption) | assumption)
      have q141 : x8_2 < (l0.length : Int) := of_decide_eq_true (by first | (with_reducible assumption) | assumption)
      obtain ⟨ad141, A141_1, c141_1, e141, hx141_0, hx141_1, hl141_1, hi141_1⟩ := at_T56 HR0.out x8_2 p141 q141
      obtain rfl : ad140 = ad141 := (by injection e141)
      replace hx141_0 := (HB.out.cell (lc_ w _ hx141_0)).trans hx141_0
      replace hx141_1 := (HB.out.cell (lc_ w _ hx141_1)).trans hx141_1
      have HR141_1 := mk_ hi141_1
      have HC141_1 := mk_ hl141_1
      clear hi141_1 hl141_1
      replace p141 := eq_true p141
      replace q141 := eq_true q141
      have ea_ := Option.some.inj (hx140_1.symm.trans hx141_1)
      injection ea_ with ea_ en_ ec_
      subst ea_
      subst ec_
      clear en_
      go_wp2_with (first | ((with_reducible refine gate_callee (f := 62) rfl ?_); refine goesL_ (some 51) rfl rfl Try.func62 (by kernel_rfl) rfl #[.slice A140_1 ((rd_T56 l0 x8_2).f1).length c140_1, .int .i64 a2] rfl (by (try simp only [lm_, lo_, ln_]); first | done | rfl | (simp only [List.length_drop, List.length_take]; rfl)) ?_; (with_reducible refine (spec_RouteTo.calls k2 _ _ ((rd_T56 l0 x8_2).f1) a2 t142 t143 t144 t145 true _ ?side1 ?side2 A18.out).mono ?_); (case side1 => repeat (first | exact (Kd.C_below HR141_1.out HB.out) | (with_reducible refine Kd.C_alloc ?_ _) | (with_reducible refine Kd.C_drewN ?_ _) | (with_reducible refine Kd.C_drew ?_))); (case side2 => exact HC141_1.out); rintro e w22 ⟨rfl, hb⟩; refine ⟨_, rfl, ?_⟩; have n0_ := mk_ (below_step (ub_ HB.out) hb); clear HB; have HB := n0_; clear n0_; (try clear hb); (try clear hb2); (try clear hk); (try clear hi)) | ((with_reducible refine gate_dst (N := 10) rfl ?_); refine box_event ?hg (N := 10) ?hd (cs := #[.int .i64 0, .int .i64 0, .int .i64 0, .int .i64 0]) (t := 51) ?hr ?_; (case hd => rfl); (case hg => rfl); (case hr => first | (go_simp; done) | (go_simp; rfl)); intro gb147 hg w23 hbox hb; have n0_ := mk_ (below_step (ub_ HB.out) hb); have n1_ := mk_ (hbox); have n2_ := mk_ ((by rw [hg]; exact (below_size (ub_ HB.out)) : w.heap.size ≤ gb147)); have n3_ := mk_ ((by rw [hg]; exact (below_size (ub_ HB.out)) : w.heap.size ≤ gb147)); clear HB; have HB := n0_; have BK147 := n1_; have GW147 := n2_; have GE147 := ge_ n3_.out; clear n0_ n1_ n2_ n3_; clear hb hbox hg; obtain ⟨hcz24_0, hcz24_1, hcz24_2, hcz24_3, hfz24_0, hfz24_1, hfz24_2, hfz24_3⟩ := cells4_ BK147.out) | ((with_reducible refine gate_callee (f := 63) rfl ?_); refine goesL_ (some 57) rfl rfl Try.func63 (by kernel_rfl) rfl #[.slice (some ad140) l0.length c0, .int .i64 t144] rfl (by (try simp only [lm_, lo_, ln_]); first | done | rfl | (simp only [List.length_drop, List.length_take]; rfl)) ?_; (with_reducible refine (spec_l8At.calls k2 _ _ l0 t144 t148 _ ?side1 ?side2 A19.out).mono ?_); (case side1 => exact Kd.C_below HR0.out (us_ HB.out)); (case side2 => exact HC0.out); rintro e w' ⟨rfl, ⟨nd, rfl⟩⟩; refine ⟨_, rfl, ?_⟩))
      go_ret
      exact ⟨by first | rfl | (simp [errW_none, errW_some] <;> rfl) | (simp [*, errW_none, errW_some] <;> rfl), us_ HB.out⟩
     rw [if_neg c21] at H
     have c21b0 : decide (t148 < 0) = false := decide_eq_false c21
     clear c21
     obtain ⟨ji25, hji25⟩ : ∃ j_ : Int, (mn x7_2 t145) = j_ := ⟨_, rfl⟩
     replace H : (spec_PathRoom.l0 k2 l0 a2 ji25 t148 (wrap64 (x9_2 + 1))) = some r := by first | (rw [hji25] at H; exact H) | (simp only [hji25] at H ⊢; exact H)
     (try rw [hji25] at A18)
     (try rw [hji25] at A19)
     have hji25_ : (if t145 < x7_2 then t145 else x7_2) = ji25 := hji25
     have H' := mk_ H
     clear H
     have p140 : 0 ≤ (x8_2 : Int) := of_decide_eq_true (by first | (with_reducible assumption) | assumption)
     have q140 : x8_2 < (l0.length : Int) := of_decide_eq_true (by first | (with_reducible assumption) | assumption)
     obtain ⟨ad140, A140_1, c140_1, e140, hx140_0, hx140_1, hl140_1, hi140_1⟩ := at_T56 HR0.out x8_2 p140 q140
     cases e140
     replace hx140_0 := (HB.out.cell (lc_ w _ hx140_0)).trans hx140_0
     replace hx140_1 := (HB.out.cell (lc_ w _ hx140_1)).trans hx140_1
     have HR140_1 := mk_ hi140_1
     have HC140_1 := mk_ hl140_1
     clear hi140_1 hl140_1
     replace p140 := eq_true p140
     replace q140 := eq_true q140
     have p141 : 0 ≤ (x8_2 : Int) := of_decide_eq_true (by first | (with_reducible assumption) | assumption)
     have q141 : x8_2 < (l0.length : Int) := of_decide_eq_true (by first | (with_reducible assumption) | assumption)
     obtain ⟨ad141, A141_1, c141_1, e141, hx141_0, hx141_1, hl141_1, hi141_1⟩ := at_T56 HR0.out x8_2 p141 q141
     obtain rfl : ad140 = ad141 := (by injection e141)
     replace hx141_0 := (HB.out.cell (lc_ w _ hx141_0)).trans hx141_0
     replace hx141_1 := (HB.out.cell (lc_ w _ hx141_1)).trans hx141_1
     have HR141_1 := mk_ hi141_1
     have HC141_1 := mk_ hl141_1
     clear hi141_1 hl141_1
     replace p141 := eq_true p141
     replace q141 := eq_true q141
     have ea_ := Option.some.inj (hx140_1.symm.trans hx141_1)
     injection ea_ with ea_ en_ ec_
     subst ea_
     subst ec_
     clear en_
     go_wp2_with (first | ((with_reducible refine gate_callee (f := 62) rfl ?_); refine goesL_ (some 51) rfl rfl Try.func62 (by kernel_rfl) rfl #[.slice A140_1 ((rd_T56 l0 x8_2).f1).length c140_1, .int .i64 a2] rfl (by (try simp only [lm_, lo_, ln_]); first | done | rfl | (simp only [List.length_drop, List.length_take]; rfl)) ?_; (with_reducible refine (spec_RouteTo.calls k2 _ _ ((rd_T56 l0 x8_2).f1) a2 t142 t143 t144 t145 true _ ?side1 ?side2 A18.out).mono ?_); (case side1 => repeat (first | exact (Kd.C_below HR141_1.out HB.out) | (with_reducible refine Kd.C_alloc ?_ _) | (with_reducible refine Kd.C_drewN ?_ _) | (with_reducible refine Kd.C_drew ?_))); (case side2 => exact HC141_1.out); rintro e w26 ⟨rfl, hb⟩; refine ⟨_, rfl, ?_⟩; have n0_ := mk_ (below_step (ub_ HB.out) hb); clear HB; have HB := n0_; clear n0_; (try clear hb); (try clear hb2); (try clear hk); (try clear hi)) | ((with_reducible refine gate_dst (N := 10) rfl ?_); refine box_event ?hg (N := 10) ?hd (cs := #[.int .i64 0, .int .i64 0, .int .i64 0, .int .i64 0]) (t := 51) ?hr ?_; (case hd => rfl); (case hg => rfl); (case hr => first | (go_simp; done) | (go_simp; rfl)); intro gb147 hg w27 hbox hb; have n0_ := mk_ (below_step (ub_ HB.out) hb); have n1_ := mk_ (hbox); have n2_ := mk_ ((by rw [hg]; exact (below_size (ub_ HB.out)) : w.heap.size ≤ gb147)); have n3_ := mk_ ((by rw [hg]; exact (below_size (ub_ HB.out)) : w.heap.size ≤ gb147)); clear HB; have HB := n0_; have BK147 := n1_; have GW147 := n2_; have GE147 := ge_ n3_.out; clear n0_ n1_ n2_ n3_; clear hb hbox hg; obtain ⟨hcz28_0, hcz28_1, hcz28_2, hcz28_3, hfz28_0, hfz28_1, hfz28_2, hfz28_3⟩ := cells4_ BK147.out) | ((with_reducible refine gate_callee (f := 63) rfl ?_); refine goesL_ (some 57) rfl rfl Try.func63 (by kernel_rfl) rfl #[.slice (some ad140) l0.length c0, .int .i64 t144] rfl (by (try simp only [lm_, lo_, ln_]); first | done | rfl | (simp only [List.length_drop, List.length_take]; rfl)) ?_; (with_reducible refine (spec_l8At.calls k2 _ _ l0 t144 t148 _ ?side1 ?side2 A19.out).mono ?_); (case side1 => exact Kd.C_below HR0.out (us_ HB.out)); (case side2 => exact HC0.out); rintro e w' ⟨rfl, ⟨nd, rfl⟩⟩; refine ⟨_, rfl, ?_⟩))
     go_roundg k2
     case measure => have := HJ3.out; have := HK2.out; omega
     case rel => exact ⟨(ji25), (t148), (wrap64 (x9_2 + 1)), (by first | rfl | (simp; done) | (simp only [← hji25] <;> (first | rfl | simp)) | (simp [*]; done)), (by first | rfl | (simp; done) | (simp [*]; done)), (by first | rfl | (simp; done) | (simp [*]; done)), H', ⟨by have := HJ3.out; have := HK2.out; omega⟩, ⟨us_ HB.out⟩⟩

/-! ### laws_toRoute: function 148 -/
def laws_toRoute.f (a0_0 : Int) (a0_1 : Int) (a0_2 : Int) (a0_3 : Int) : Option (Int × Int × Int × Int) := some (a0_0, a0_1, a0_2, a0_3)
set_option maxHeartbeats 8000000 in
set_option maxRecDepth 100000 in
theorem laws_toRoute.calls (a0_0 : Int) (a0_1 : Int) (a0_2 : Int) (a0_3 : Int) (r1 : Int) (r2 : Int) (r3 : Int) (r4 : Int) (w : World) (h : laws_toRoute.f a0_0 a0_1 a0_2 a0_3 = some (r1, r2, r3, r4)) :
  Calls Try.prog 148 #[.agg #[.int .i64 a0_0, .int .i64 a0_1, .int .i64 a0_2, .int .i64 a0_3]] w fun e w' => e = .returned (.agg #[.int .i64 r1, .int .i64 r2, .int .i64 r3, .int .i64 r4]) ∧ Below w.heap.size w w' := by
 have hu161 := Try.underlying161
 have hu51 := Try.underlying51
 have HB := mk_ (Below.refl w.heap.size w)
 have H : (some (a0_0, a0_1, a0_2, a0_3)) = some (r1, r2, r3, r4) := h
 clear h
 simp only [Option.some.injEq, Prod.mk.injEq] at H
 obtain ⟨rfl, rfl, rfl, rfl⟩ := H
 go_enter Try.func148, Try.ntmps148
 go_wp2_with (first | ((with_reducible refine gate_dst (N := 1) rfl ?_); refine box_event ?hg (N := 1) ?hd (cs := #[.int .i64 a0_0, .int .i64 a0_1, .int .i64 a0_2, .int .i64 a0_3]) (t := 161) ?hr ?_; (case hd => rfl); (case hg => rfl); (case hr => first | (go_simp; done) | (go_simp; rfl)); intro gb149 hg w2 hbox hb; have n0_ := mk_ (below_step (ub_ HB.out) hb); have n1_ := mk_ (hbox); have n2_ := mk_ ((by rw [hg]; exact (below_size (ub_ HB.out)) : w.heap.size ≤ gb149)); have n3_ := mk_ ((by rw [hg]; exact (below_size (ub_ HB.out)) : w.heap.size ≤ gb149)); clear HB; have HB := n0_; have BK149 := n1_; have GW149 := n2_; have GE149 := ge_ n3_.out; clear n0_ n1_ n2_ n3_; clear hb hbox hg) | ((with_reducible refine gate_dst (N := 2) rfl ?_); refine box_event ?hg (N := 2) ?hd (cs := #[.int .i64 0, .int .i64 0, .int .i64 0, .int .i64 0]) (t := 51) ?hr ?_; (case hd => rfl); (case hg => rfl); (case hr => first | (go_simp; done) | (go_simp; rfl)); intro gb150 hg w3 hbox hb; have n0_ := mk_ (blk_below (u_ BK149.out) hb); have n1_ := mk_ (below_step (us_ HB.out) hb); have n2_ := mk_ (hbox); have n3_ := mk_ ((by rw [hg]; exact (below_size (us_ HB.out)) : w.heap.size ≤ gb150)); have n4_ := mk_ ((by rw [hg]; exact (below_size (us_ HB.out)) : w.heap.size ≤ gb150)); have n5_ := mk_ ((by rw [hg]; exact Nat.ne_of_lt (blk_lt (u_ BK149.out)) : gb149 ≠ gb150)); have n6_ := mk_ ((by rw [hg]; exact Nat.ne_of_gt (blk_lt (u_ BK149.out)) : gb150 ≠ gb149)); clear BK149; clear HB; have BK149 := n0_; have HB := n1_; have BK150 := n2_; have GW150 := n3_; have GE150 := ge_ n4_.out; have NB149_150 := nq_ n5_.out; have NB150_149 := nq_ n6_.out; clear n0_ n1_ n2_ n3_ n4_ n5_ n6_; clear hb hbox hg) | ((with_reducible refine gate_dst (N := 3) rfl ?_); refine box_event ?hg (N := 3) ?hd (cs := #[.int .i64 0, .int .i64 0, .int .i64 0, .int .i64 0]) (t := 51) ?hr ?_; (case hd => rfl); (case hg => rfl); (case hr => first | (go_simp; done) | (go_simp; rfl)); intro gb151 hg w4 hbox hb; have n0_ := mk_ (blk_below (u_ BK149.out) hb); have n1_ := mk_ (blk_below (u_ BK150.out) hb); have n2_ := mk_ (below_step (us_ HB.out) hb); have n3_ := mk_ (hbox); have n4_ := mk_ ((by rw [hg]; exact (below_size (us_ HB.out)) : w.heap.size ≤ gb151)); have n5_ := mk_ ((by rw [hg]; exact (below_size (us_ HB.out)) : w.heap.size ≤ gb151)); have n6_ := mk_ ((by rw [hg]; exact Nat.ne_of_lt (blk_lt (u_ BK149.out)) : gb149 ≠ gb151)); have n7_ := mk_ ((by rw [hg]; exact Nat.ne_of_gt (blk_lt (u_ BK149.out)) : gb151 ≠ gb149)); have n8_ := mk_ ((by rw [hg]; exact Nat.ne_of_lt (blk_lt (u_ BK150.out)) : gb150 ≠ gb151)); have n9_ := mk_ ((by rw [hg]; exact Nat.ne_of_gt (blk_lt (u_ BK150.out)) : gb151 ≠ gb150)); clear BK149; clear BK150; clear HB; have BK149 := n0_; have BK150 := n1_; have HB := n2_; have BK151 := n3_; have GW151 := n4_; have GE151 := ge_ n5_.out; have NB149_151 := nq_ n6_.out; have NB151_149 := nq_ n7_.out; have NB150_151 := nq_ n8_.out; have NB151_150 := nq_ n9_.out; clear n0_ n1_ n2_ n3_ n4_ n5_ n6_ n7_ n8_ n9_; clear hb hbox hg; have hnb5 := NB149_150.out; have hnc5 := NB150_149.out; have hnb6 := NB149_151.out; have hnc6 := NB151_149.out; obtain ⟨hcz7_0, hcz7_1, hcz7_2, hcz7_3, hfz7_0, hfz7_1, hfz7_2, hfz7_3⟩ := cells4_ BK149.out; have hnb8 := NB151_150.out; have hnc8 := NB150_151.out; obtain ⟨hcz9_0, hcz9_1, hcz9_2, hcz9_3, hfz9_0, hfz9_1, hfz9_2, hfz9_3⟩ := cells4_ BK151.out; obtain ⟨hcz10_0, hcz10_1, hcz10_2, hcz10_3, hfz10_0, hfz10_1, hfz10_2, hfz10_3⟩ := cells4_ BK150.out) | ((with_reducible refine gate_store (t := 51) (p := 2) rfl ?_); refine store_event (t := 51) (p := 2) (v := ?vo_w11) (w1 := ((((((((w4.setCell ⟨gb151, 0, none⟩ (.int .i64 a0_0)).setCell ⟨gb151, 1, none⟩ (.int .i64 a0_1)).setCell ⟨gb151, 2, none⟩ (.int .i64 a0_2)).setCell ⟨gb151, 3, none⟩ (.int .i64 a0_3)).setCell ⟨gb150, 0, none⟩ (.int .i64 a0_0)).setCell ⟨gb150, 1, none⟩ (.int .i64 a0_1)).setCell ⟨gb150, 2, none⟩ (.int .i64 a0_2)).setCell ⟨gb150, 3, none⟩ (.int .i64 a0_3))) ?hg ?ho ?hn ?hr ?_; (case ho => rfl); (case hg => rfl); (case hn => rfl); (case hr => first | (go_simp; done) | (go_simp; rfl)); intro w11 hw; have n0_ : Aside0 (w11.heap[gb149]? = some (.cells #[.int .i64 a0_0, .int .i64 a0_1, .int .i64 a0_2, .int .i64 a0_3] 161 (0, 0))) := ⟨(by rw [hw]; exact (uf_ BK149.out))⟩; have n1_ : Aside0 (w11.heap[gb150]? = some (.cells #[.int .i64 a0_0, .int .i64 a0_1, .int .i64 a0_2, .int .i64 a0_3] 51 (0, 0))) := ⟨(by rw [hw]; exact (by (with_reducible repeat (first | refine bn_ ?_ _ | refine bw_ ?_ | refine ba_ ?_ _)); refine blk_put (cs := #[.int .i64 a0_0, .int .i64 a0_1, .int .i64 a0_2, .int .i64 0]) ?_ 3 _ rfl; (with_reducible repeat (first | refine bn_ ?_ _ | refine bw_ ?_ | refine ba_ ?_ _)); refine blk_put (cs := #[.int .i64 a0_0, .int .i64 a0_1, .int .i64 0, .int .i64 0]) ?_ 2 _ rfl; (with_reducible repeat (first | refine bn_ ?_ _ | refine bw_ ?_ | refine ba_ ?_ _)); refine blk_put (cs := #[.int .i64 a0_0, .int .i64 0, .int .i64 0, .int .i64 0]) ?_ 1 _ rfl; (with_reducible repeat (first | refine bn_ ?_ _ | refine bw_ ?_ | refine ba_ ?_ _)); refine blk_put (cs := #[.int .i64 0, .int .i64 0, .int .i64 0, .int .i64 0]) ?_ 0 _ rfl; (with_reducible repeat (first | refine bn_ ?_ _ | refine bw_ ?_ | refine ba_ ?_ _)); refine blk_far ?_ NB150_151.out _; (with_reducible repeat (first | refine bn_ ?_ _ | refine bw_ ?_ | refine ba_ ?_ _)); refine blk_far ?_ NB150_151.out _; (with_reducible repeat (first | refine bn_ ?_ _ | refine bw_ ?_ | refine ba_ ?_ _)); refine blk_far ?_ NB150_151.out _; (with_reducible repeat (first | refine bn_ ?_ _ | refine bw_ ?_ | refine ba_ ?_ _)); refine blk_far ?_ NB150_151.out _; (with_reducible repeat (first | refine bn_ ?_ _ | refine bw_ ?_ | refine ba_ ?_ _)); exact BK150.out))⟩; have n2_ : Aside0 (w11.heap[gb151]? = some (.cells #[.int .i64 a0_0, .int .i64 a0_1, .int .i64 a0_2, .int .i64 a0_3] 51 (0, 0))) := ⟨(by rw [hw]; exact (by (with_reducible repeat (first | refine bn_ ?_ _ | refine bw_ ?_ | refine ba_ ?_ _)); refine blk_far ?_ NB151_150.out _; (with_reducible repeat (first | refine bn_ ?_ _ | refine bw_ ?_ | refine ba_ ?_ _)); refine blk_far ?_ NB151_150.out _; (with_reducible repeat (first | refine bn_ ?_ _ | refine bw_ ?_ | refine ba_ ?_ _)); refine blk_far ?_ NB151_150.out _; (with_reducible repeat (first | refine bn_ ?_ _ | refine bw_ ?_ | refine ba_ ?_ _)); refine blk_far ?_ NB151_150.out _; (with_reducible repeat (first | refine bn_ ?_ _ | refine bw_ ?_ | refine ba_ ?_ _)); refine blk_put (cs := #[.int .i64 a0_0, .int .i64 a0_1, .int .i64 a0_2, .int .i64 0]) ?_ 3 _ rfl; (with_reducible repeat (first | refine bn_ ?_ _ | refine bw_ ?_ | refine ba_ ?_ _)); refine blk_put (cs := #[.int .i64 a0_0, .int .i64 a0_1, .int .i64 0, .int .i64 0]) ?_ 2 _ rfl; (with_reducible repeat (first | refine bn_ ?_ _ | refine bw_ ?_ | refine ba_ ?_ _)); refine blk_put (cs := #[.int .i64 a0_0, .int .i64 0, .int .i64 0, .int .i64 0]) ?_ 1 _ rfl; (with_reducible repeat (first | refine bn_ ?_ _ | refine bw_ ?_ | refine ba_ ?_ _)); refine blk_put (cs := #[.int .i64 0, .int .i64 0, .int .i64 0, .int .i64 0]) ?_ 0 _ rfl; (with_reducible repeat (first | refine bn_ ?_ _ | refine bw_ ?_ | refine ba_ ?_ _)); exact BK151.out))⟩; have n3_ : Aside0 (Below w.heap.size w w11) := ⟨(by rw [hw]; exact (us_ HB.out))⟩; clear hw; clear BK149; clear BK150; clear BK151; clear HB; have BK149 := n0_; have BK150 := n1_; have BK151 := n2_; have HB := n3_; clear n0_ n1_ n2_ n3_))
 refine bodyPost_ret (results_cell_row rfl _ _ gb150 51 #[.int .i64 a0_0, .int .i64 a0_1, .int .i64 a0_2, .int .i64 a0_3] (0, 0) _ rfl (u_ BK150.out) Try.underlying51 rfl (by kernel_rfl)) rfl ?_
 exact ⟨by first | rfl | (simp [errW_none, errW_some] <;> rfl) | (simp [*, errW_none, errW_some] <;> rfl), us_ HB.out⟩

/-! ### laws_toRouteS: function 110 -/
def laws_toRouteS.l0 : Nat → List (S161) → List (S51) → Int → Option ((List (S51)))
 | 0, _, _, _ => none
 | k + 1, x0, x3, x4 => if x4 < (x0.length : Int) then (if 0 ≤ x4 then ((laws_toRoute.f ((rd_T161 x0 x4).f0) ((rd_T161 x0 x4).f1) ((rd_T161 x0 x4).f2) ((rd_T161 x0 x4).f3)).bind fun bt156 => (if x4 < (x3.length : Int) then (laws_toRouteS.l0 k x0 (x3.set (x4 : Int).toNat (⟨bt156.1, bt156.2.1, bt156.2.2.1, bt156.2.2.2⟩ : S51)) (wrap64 (x4 + 1))) else (none))) else (none)) else (some x3)
def laws_toRouteS.f (k : Nat) (l0 : List (S161)) : Option ((List (S51))) := if 0 ≤ (l0.length : Int) then (if ((l0.length : Int) : Int).toNat ≤ 8796093022208 then (laws_toRouteS.l0 k l0 (List.replicate ((l0.length : Int) : Int).toNat z51) 0) else (none)) else (none)
theorem laws_toRouteS.mono_l : ∀ k, (∀ y0 y1 y2, LeO (laws_toRouteS.l0 k y0 y1 y2) (laws_toRouteS.l0 (k + 1) y0 y1 y2))
 | 0 => fun _ _ _ r h => by simp [laws_toRouteS.l0] at h
 | k + 1 => by
  have ih0 := laws_toRouteS.mono_l k
  ·intro y0 y1 y2
   unfold laws_toRouteS.l0
   repeat' first
   | (with_reducible exact ih0 _ _ _)
   | (with_reducible exact LeO.refl _)
   | (with_reducible exact LeO.none _)
   | (with_reducible refine LeO.ite ?_ ?_)
   | (with_reducible refine LeO.bind ?_ (fun _ => ?_))
   | exact ih0 _ _ _
   | exact LeO.none _
   | refine LeO.ite ?_ ?_
   | refine LeO.bind ?_ (fun _ => ?_)
theorem laws_toRouteS.mono : ∀ a0 k, LeO (laws_toRouteS.f k a0) (laws_toRouteS.f (k + 1) a0) := by
 intro a0 k
 have ih0 := laws_toRouteS.mono_l k
 unfold laws_toRouteS.f
 repeat' first
   | (with_reducible exact ih0 _ _ _)
   | (with_reducible exact LeO.refl _)
   | (with_reducible exact LeO.none _)
   | (with_reducible refine LeO.ite ?_ ?_)
   | (with_reducible refine LeO.bind ?_ (fun _ => ?_))
   | exact ih0 _ _ _
   | exact LeO.none _
   | refine LeO.ite ?_ ?_
   | refine LeO.bind ?_ (fun _ => ?_)
set_option maxHeartbeats 8000000 in
set_option maxRecDepth 100000 in
theorem laws_toRouteS.calls (k : Nat) (A0 : Option Addr) (c0 : Nat) (l0 : List (S161)) (r : List (S51)) (w : World) (hr0 : Kd.C k161 w A0 l0.length l0) (hc0 : l0.length ≤ c0) (h : laws_toRouteS.f k l0 = some r) :
  Calls Try.prog 110 #[.slice A0 l0.length c0] w fun e w' => ∃ v0_ : Value, e = .returned (v0_) ∧ Kd.R k51 51 w' w.heap.size (fun _ => True) v0_ r ∧ Below w.heap.size w w' := by
 have hu161 := Try.underlying161
 have hu51 := Try.underlying51
 have HR0 := mk_ hr0
 have HC0 := mk_ hc0
 clear hr0 hc0
 have HB := mk_ (Below.refl w.heap.size w)
 have H : (if 0 ≤ (l0.length : Int) then (if ((l0.length : Int) : Int).toNat ≤ 8796093022208 then (laws_toRouteS.l0 k l0 (List.replicate ((l0.length : Int) : Int).toNat z51) 0) else (none)) else (none)) = some r := h
 clear h
 by_cases c2 : 0 ≤ (l0.length : Int)
 rotate_left
 ·rw [if_neg c2] at H
  exact absurd H (by simp)
 rw [if_pos c2] at H
 have c2b0 := eq_true c2
 have c2b1 : decide (0 ≤ (l0.length : Int)) = true := decide_eq_true c2
 clear c2
 by_cases c3 : ((l0.length : Int) : Int).toNat ≤ 8796093022208
 rotate_left
 ·rw [if_neg c3] at H
  exact absurd H (by simp)
 rw [if_pos c3] at H
 have c3b0 := eq_true c3
 have c3b1 : decide (((l0.length : Int) : Int).toNat ≤ 8796093022208) = true := decide_eq_true c3
 clear c3
 obtain ⟨y152, hy152⟩ : ∃ y_ : List (S51), y_ = (List.replicate ((l0.length : Int) : Int).toNat z51) := ⟨_, rfl⟩
 replace H : (laws_toRouteS.l0 k l0 y152 0) = some r := by first | (rw [hy152]; with_reducible exact H) | (have H2_ := (Option.bind_some _ _).symm.trans H; rw [hy152]; with_reducible exact H2_) | (have H2_ := (Option.bind_some _ _).symm.trans H; with_reducible exact H2_) | with_reducible exact H | (rw [hy152]; exact H) | exact H
 have Ny152 := mk_ hy152
 clear hy152
 have H' := mk_ H
 clear H
 go_enter Try.func110, Try.ntmps110
 go_wp2_with (first | ((with_reducible refine gate_dst (N := 7) rfl ?_); refine Kd.R_make k51 _ 51 rfl (N := 7) rfl 54 _ _ rfl (l0.length : Int) rfl rfl Try.underlying54 (.agg #[(.int .i64 0), (.int .i64 0), (.int .i64 0), (.int .i64 0)]) 32 info51 rfl (by decide) (by omega) z51 (ok := fun _ => True) (okp := fun _ => True) (k51_mkM _ _ _ z51 ) (fun _ hk => hk) trivial (of_decide_eq_true (by first | (with_reducible assumption) | assumption)) (Nat.le_trans (Nat.mul_le_mul_right _ (of_decide_eq_true (by first | (with_reducible assumption) | assumption) : (l0.length : Int).toNat ≤ 8796093022208)) (by omega)) (Below.refl _ _) (Nat.le_refl _) ?_; intro v153 w4 ho5 hb hg_ hnew_; clear hg_ hnew_; (first | rw [← Ny152.out] at ho5 | (simp only [Int.reduceToNat] at ho5; rw [← Ny152.out] at ho5)); have n0_ := mk_ (Kd.R_lower ho5 (below_size (ub_ HB.out))); have n1_ := mk_ (below_step (ub_ HB.out) hb); clear HB; have HO154 := n0_; have HB := n1_; clear n0_ n1_; clear hb ho5))
 go_loopg [4] k (fun kq v4 w' => ∃ (x3_1 : List (S51)) (x4_1 : Int), v4 = .int .i64 x4_1 ∧ Aside0 (laws_toRouteS.l0 kq l0 x3_1 x4_1 = some r) ∧ Aside0 (kq ≤ k) ∧ Aside0 (Kd.R k51 51 w' w.heap.size (fun _ => True) v153 x3_1) ∧ Aside0 (Below w.heap.size w w'))
 case atStart => exact ⟨(y152), (0), (by first | rfl | (simp; done) | (simp [*]; done)), H', ⟨Nat.le_refl _⟩, ⟨Kd.ur_ HO154.out⟩, ⟨ub_ HB.out⟩⟩
 case round =>
  clear H'
  try clear c1
  try clear c2
  try clear c2b0
  try clear c2b1
  try clear p2
  try clear c3
  try clear c3b0
  try clear c3b1
  obtain ⟨x3_1, x4_1, rfl, HA, HK1, HO_3, HB⟩ := hrel
  cases gk with
  | zero => exact absurd HA.out (by simp [laws_toRouteS.l0])
  | succ k1 =>
   have H := HA.out
   clear HA
   simp only [laws_toRouteS.l0] at H
   by_cases c6 : x4_1 < (l0.length : Int)
   rotate_left
   ·rw [if_neg c6] at H
    have c6b0 : decide (x4_1 < (l0.length : Int)) = false := decide_eq_false c6
    clear c6
    obtain rfl := Option.some.inj H
    go_wp2
    go_ret
    exact ⟨_, by first | rfl | (simp [errW_none, errW_some] <;> rfl) | (simp [*, errW_none, errW_some] <;> rfl), by (with_reducible repeat (first | apply Kd.R_alloc | apply Kd.R_drewN | apply Kd.R_drew)); exact HO_3.out, by repeat (first | (with_reducible first | exact HB.out | apply na_ | apply nn_ | apply nw_) | exact HB.out)⟩
   rw [if_pos c6] at H
   have c6b0 : decide (x4_1 < (l0.length : Int)) = true := decide_eq_true c6
   clear c6
   by_cases c7 : 0 ≤ x4_1
   rotate_left
   ·rw [if_neg c7] at H
    exact absurd H (by simp)
   rw [if_pos c7] at H
   have c7b0 : decide (0 ≤ x4_1) = true := decide_eq_true c7
   clear c7
   replace H := Option.bind_eq_some_iff.mp H
   obtain ⟨⟨t156, t157, t158, t159⟩, A80, H⟩ := H
   replace H : (if x4_1 < (x3_1.length : Int) then (laws_toRouteS.l0 k1 l0 (x3_1.set (x4_1 : Int).toNat (⟨t156, t157, t158, t159⟩ : S51)) (wrap64 (x4_1 + 1))) else (none)) = some r := H
   have A8 := mk_ A80
   clear A80
   by_cases c9 : x4_1 < (x3_1.length : Int)
   rotate_left
   ·rw [if_neg c9] at H
    exact absurd H (by simp)
   rw [if_pos c9] at H
   have c9b0 : decide (x4_1 < (x3_1.length : Int)) = true := decide_eq_true c9
   clear c9
   obtain ⟨y160, hy160⟩ : ∃ y_ : List (S51), y_ = (x3_1.set (x4_1 : Int).toNat (⟨t156, t157, t158, t159⟩ : S51)) := ⟨_, rfl⟩
   replace H : (laws_toRouteS.l0 k1 l0 y160 (wrap64 (x4_1 + 1))) = some r := by first | (rw [hy160]; with_reducible exact H) | (have H2_ := (Option.bind_some _ _).symm.trans H; rw [hy160]; with_reducible exact H2_) | (have H2_ := (Option.bind_some _ _).symm.trans H; with_reducible exact H2_) | with_reducible exact H | (rw [hy160]; exact H) | exact H
   have Ny160 := mk_ hy160
   clear hy160
   have H' := mk_ H
   clear H
   have p155 : 0 ≤ (x4_1 : Int) := of_decide_eq_true (by first | (with_reducible assumption) | assumption)
   have q155 : x4_1 < (l0.length : Int) := of_decide_eq_true (by first | (with_reducible assumption) | assumption)
   obtain ⟨ad155, e155, hx155_0, hx155_1, hx155_2, hx155_3⟩ := at_T161 HR0.out x4_1 p155 q155
   cases e155
   replace hx155_0 := (HB.out.cell (lc_ w _ hx155_0)).trans hx155_0
   replace hx155_1 := (HB.out.cell (lc_ w _ hx155_1)).trans hx155_1
   replace hx155_2 := (HB.out.cell (lc_ w _ hx155_2)).trans hx155_2
   replace hx155_3 := (HB.out.cell (lc_ w _ hx155_3)).trans hx155_3
   replace p155 := eq_true p155
   replace q155 := eq_true q155
   go_wp2_with (first | ((with_reducible refine gate_callee (f := 148) rfl ?_); refine goesL_ (some 20) rfl rfl Try.func148 (by kernel_rfl) rfl #[.agg #[.int .i64 ((rd_T161 l0 x4_1).f0), .int .i64 ((rd_T161 l0 x4_1).f1), .int .i64 ((rd_T161 l0 x4_1).f2), .int .i64 ((rd_T161 l0 x4_1).f3)]] rfl (by (try simp only [lm_, lo_, ln_]); first | done | rfl | (simp only [List.length_drop, List.length_take]; rfl)) ?_; (with_reducible refine (laws_toRoute.calls ((rd_T161 l0 x4_1).f0) ((rd_T161 l0 x4_1).f1) ((rd_T161 l0 x4_1).f2) ((rd_T161 l0 x4_1).f3) t156 t157 t158 t159 _ A8.out).mono ?_); rintro e w11 ⟨rfl, hb⟩; refine ⟨_, rfl, ?_⟩; have n0_ := mk_ (Kd.R_below (Kd.ur_ HO_3.out) hb); have n1_ := mk_ (below_step (ub_ HB.out) hb); clear HO_3; clear HB; have HO_3 := n0_; have HB := n1_; clear n0_ n1_; (try clear hb); (try clear hb2); (try clear hk); (try clear hi); have p10 : 0 ≤ (x4_1 : Int) := of_decide_eq_true (by first | (with_reducible assumption) | assumption); have q10 : (x4_1 : Int) < ((x3_1.length : Int) : Int) := of_decide_eq_true (by first | (with_reducible assumption) | assumption); obtain ⟨go10, co10, eo10, gb10, gl10, cl10, HG10⟩ := Kd.R_form HO_3.out (by omega); (first | cases eo10 | (injection eo10 with ea_ en_ ec_; (first | subst ea_ | (injection ea_ with ea_; subst ea_)); subst ec_; clear en_)); have GB10 := mk_ gb10; have GG10 := mk_ HG10; clear gb10 gl10 HG10; obtain ⟨ce10, hcl10, hM10, hcc10, hfr10⟩ := Kd.R_elem HO_3.out z51 (x4_1 : Int) p10 q10; obtain rfl := k51_openM hM10; have hx10_0 : w11.cell? ⟨go10, (x4_1 : Int).toNat * 4, none⟩ = some (.int .i64 ((rd_T51 x3_1 x4_1).f0)) := hcc10 0 _ rfl; have hx10_1 : w11.cell? ⟨go10, (x4_1 : Int).toNat * 4 + 1, none⟩ = some (.int .i64 ((rd_T51 x3_1 x4_1).f1)) := hcc10 1 _ rfl; have hx10_2 : w11.cell? ⟨go10, (x4_1 : Int).toNat * 4 + 2, none⟩ = some (.int .i64 ((rd_T51 x3_1 x4_1).f2)) := hcc10 2 _ rfl; have hx10_3 : w11.cell? ⟨go10, (x4_1 : Int).toNat * 4 + 3, none⟩ = some (.int .i64 ((rd_T51 x3_1 x4_1).f3)) := hcc10 3 _ rfl; have hf10_0 : w11.frozen? ⟨go10, (x4_1 : Int).toNat * 4, none⟩ = false := hfr10 0; have hf10_1 : w11.frozen? ⟨go10, (x4_1 : Int).toNat * 4 + 1, none⟩ = false := hfr10 1; have hf10_2 : w11.frozen? ⟨go10, (x4_1 : Int).toNat * 4 + 2, none⟩ = false := hfr10 2; have hf10_3 : w11.frozen? ⟨go10, (x4_1 : Int).toNat * 4 + 3, none⟩ = false := hfr10 3; clear hcl10 hcc10 hfr10 hM10; replace p10 := eq_true p10; replace q10 := eq_true q10; have HX12 := mk_ (show Kd.R k51 51 w11 w.heap.size (fun _ => True) (.slice (some ⟨go10, 0, none⟩) x3_1.length co10) x3_1 from (Kd.ur_ HO_3.out)); obtain ⟨ce12, hcl12, hM12, hcc12, hfr12⟩ := Kd.R_elem HX12.out z51 (x4_1 : Int) (of_decide_eq_true (by first | (with_reducible assumption) | assumption)) (by have h_ : (x4_1 : Int) < ((x3_1.length : Int) : Int) := of_decide_eq_true (by first | (with_reducible assumption) | assumption); first | exact h_ | (have e_ := (Kd.R_reads' HO_3.out).1; omega) | simpa using h_); obtain rfl := k51_openM hM12; have HP12 := Kd.R_seg HX12.out (x4_1 : Int) (of_decide_eq_true (by first | (with_reducible assumption) | assumption)) (by have h_ : (x4_1 : Int) < ((x3_1.length : Int) : Int) := of_decide_eq_true (by first | (with_reducible assumption) | assumption); first | exact h_ | (have e_ := (Kd.R_reads' HO_3.out).1; omega) | simpa using h_) (seg := [.int .i64 t156, .int .i64 t157, .int .i64 t158, .int .i64 t159]) (j := 0) hcl12 hcc12 (show 4 ≤ 4 from by decide) (x' := (⟨t156, t157, t158, t159⟩ : S51)) (k51_mkM _ _ _ (⟨t156, t157, t158, t159⟩ : S51) ) (fun _ hk => hk); have hx12_0 := hcc12 0 _ rfl; (try simp only [show (k51).sz = 4 from rfl, Nat.mul_one, Nat.add_zero] at hx12_0); have hf12_0 := hfr12 0; (try simp only [show (k51).sz = 4 from rfl, Nat.mul_one, Nat.add_zero] at hf12_0); have hx12_1 := hcc12 1 _ rfl; (try simp only [show (k51).sz = 4 from rfl, Nat.mul_one, Nat.add_zero] at hx12_1); have hf12_1 := hfr12 1; (try simp only [show (k51).sz = 4 from rfl, Nat.mul_one, Nat.add_zero] at hf12_1); have hx12_2 := hcc12 2 _ rfl; (try simp only [show (k51).sz = 4 from rfl, Nat.mul_one, Nat.add_zero] at hx12_2); have hf12_2 := hfr12 2; (try simp only [show (k51).sz = 4 from rfl, Nat.mul_one, Nat.add_zero] at hf12_2); have hx12_3 := hcc12 3 _ rfl; (try simp only [show (k51).sz = 4 from rfl, Nat.mul_one, Nat.add_zero] at hx12_3); have hf12_3 := hfr12 3; (try simp only [show (k51).sz = 4 from rfl, Nat.mul_one, Nat.add_zero] at hf12_3); clear hcl12 hcc12 hfr12 hM12) | ((with_reducible refine gate_store (t := 51) (p := 21) rfl ?_); refine store_event (t := 51) (p := 21) (v := ?vo_w13) (w1 := ((((w11.setCell ⟨go10, (x4_1 : Int).toNat * 4, none⟩ (.int .i64 t156)).setCell ⟨go10, (x4_1 : Int).toNat * 4 + 1, none⟩ (.int .i64 t157)).setCell ⟨go10, (x4_1 : Int).toNat * 4 + 2, none⟩ (.int .i64 t158)).setCell ⟨go10, (x4_1 : Int).toNat * 4 + 3, none⟩ (.int .i64 t159))) ?hg ?ho ?hn ?hr ?_; (case ho => rfl); (case hg => rfl); (case hn => rfl); (case hr => first | (go_simp; done) | (go_simp; rfl)); intro w13 hw; have hg : w11.grownBy w13 (some go10) := (by rw [hw]; exact HP12.2); have hp_ : Kd.R k51 51 w13 w.heap.size (fun _ => True) (.slice (some ⟨go10, 0, none⟩) x3_1.length co10) y160 := (by rw [hw, Ny160.out]; exact HP12.1); clear HP12; have n0_ := mk_ (hp_); have n1_ := mk_ ((by rw [hw]; exact below_set (below_set (below_set (below_set (HB.out) GB10.out) GB10.out) GB10.out) GB10.out : Below w.heap.size w w13)); clear HO_3; clear HB; have HO_3 := n0_; have HB := n1_; clear n0_ n1_; clear hg hw hp_))
   go_roundg k1
   case measure => have := HK1.out; omega
   case rel => exact ⟨(y160), (wrap64 (x4_1 + 1)), (by first | rfl | (simp; done) | (simp [*]; done)), H', ⟨by have := HK1.out; omega⟩, ⟨Kd.ur_ HO_3.out⟩, ⟨ub_ HB.out⟩⟩

end Go.Proofs.Ytdclgfdkomoedaa.MFnExactPathRoom
