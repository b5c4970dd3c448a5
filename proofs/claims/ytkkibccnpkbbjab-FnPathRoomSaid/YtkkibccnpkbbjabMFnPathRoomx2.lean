/- Functions that the law FnPathRoom reaches, each with the proof that the machine's call comes to just its answer; no conditions but those that each theorem states. Printed by a program of this session over the kit's print. -/
import Derived.Test.YtkkibccnpkbbjabMFnPathRoomx0
import Derived.Test.YtkkibccnpkbbjabMFnPathRoomx1
namespace Go.Proofs.Ytkkibccnpkbbjab.MFnPathRoom
open Go.RowKit Go.Proofs.YtkkibccnpkbbjabV.PrintWords Go.Proofs.YtkkibccnpkbbjabV.PrintLast Go.Proofs.YtkkibccnpkbbjabV.PrintMore
attribute [local go_sem] max2_int min2_int max_two min_two max_three min_three max_four min_four   -- for this text's walks alone
set_option linter.unusedVariables false
set_option linter.unusedSimpArgs false

/-! ### spec_RoutePut: function 89 -/
mutual
def spec_RoutePut.l0 : Nat → List (S29) → List (S29) → Bool → Int → Int → Int → Int → Int → Option ((List (S29)) × Bool)
 | 0, _, _, _, _, _, _, _, _ => none
 | k + 1, x0, x6, x7, x8, x122000, x122001, x122002, x122003 => if x8 < (x0.length : Int) then (if 0 ≤ x8 then (if x7 = true then (spec_RoutePut.j1 k x0 x6 x7 x8 false x122000 x122001 x122002 x122003 ((rd_T29 x0 x8).f0) ((rd_T29 x0 x8).f1) ((rd_T29 x0 x8).f2) ((rd_T29 x0 x8).f3)) else (if x122001 < ((rd_T29 x0 x8).f1) then (spec_RoutePut.j1 k x0 x6 x7 x8 true x122000 x122001 x122002 x122003 ((rd_T29 x0 x8).f0) ((rd_T29 x0 x8).f1) ((rd_T29 x0 x8).f2) ((rd_T29 x0 x8).f3)) else (if x122001 = ((rd_T29 x0 x8).f1) then (spec_RoutePut.j1 k x0 x6 x7 x8 (decide (x122000 ≤ ((rd_T29 x0 x8).f0))) x122000 x122001 x122002 x122003 ((rd_T29 x0 x8).f0) ((rd_T29 x0 x8).f1) ((rd_T29 x0 x8).f2) ((rd_T29 x0 x8).f3)) else (spec_RoutePut.j1 k x0 x6 x7 x8 false x122000 x122001 x122002 x122003 ((rd_T29 x0 x8).f0) ((rd_T29 x0 x8).f1) ((rd_T29 x0 x8).f2) ((rd_T29 x0 x8).f3))))) else (none)) else (if x7 = true then (spec_RoutePut.j2 k x0 x6 x122000 x122001 x122002 x122003) else (if x6.length < 4398046511104 then (spec_RoutePut.j2 k x0 (x6 ++ [(⟨x122000, x122001, x122002, x122003⟩ : S29)]) x122000 x122001 x122002 x122003) else (none)))
def spec_RoutePut.j1 : Nat → List (S29) → List (S29) → Bool → Int → Bool → Int → Int → Int → Int → Int → Int → Int → Int → Option ((List (S29)) × Bool)
 | 0, _, _, _, _, _, _, _, _, _, _, _, _, _ => none
 | k + 1, x0, x6, x7, x8, x43, x122000, x122001, x122002, x122003, x127000, x127001, x127002, x127003 => if x43 = true then (if x6.length < 4398046511104 then ((some (x6 ++ [(⟨x122000, x122001, x122002, x122003⟩ : S29)] : List (S29))).bind fun y127 => (if x127001 = x122001 then (if x127000 = x122000 then (spec_RoutePut.l0 k x0 y127 true (wrap64 (x8 + 1)) x122000 x122001 x122002 x122003) else (if y127.length < 4398046511104 then (spec_RoutePut.l0 k x0 (y127 ++ [(⟨x127000, x127001, x127002, x127003⟩ : S29)]) true (wrap64 (x8 + 1)) x122000 x122001 x122002 x122003) else (none))) else (if y127.length < 4398046511104 then (spec_RoutePut.l0 k x0 (y127 ++ [(⟨x127000, x127001, x127002, x127003⟩ : S29)]) true (wrap64 (x8 + 1)) x122000 x122001 x122002 x122003) else (none)))) else (none)) else (if x127001 = x122001 then (if x127000 = x122000 then (spec_RoutePut.l0 k x0 x6 x7 (wrap64 (x8 + 1)) x122000 x122001 x122002 x122003) else (if x6.length < 4398046511104 then (spec_RoutePut.l0 k x0 (x6 ++ [(⟨x127000, x127001, x127002, x127003⟩ : S29)]) x7 (wrap64 (x8 + 1)) x122000 x122001 x122002 x122003) else (none))) else (if x6.length < 4398046511104 then (spec_RoutePut.l0 k x0 (x6 ++ [(⟨x127000, x127001, x127002, x127003⟩ : S29)]) x7 (wrap64 (x8 + 1)) x122000 x122001 x122002 x122003) else (none)))
def spec_RoutePut.j2 : Nat → List (S29) → List (S29) → Int → Int → Int → Int → Option ((List (S29)) × Bool)
 | 0, _, _, _, _, _, _ => none
 | k + 1, x0, x6, x122000, x122001, x122002, x122003 => (spec_RoutesOk.f k x0).bind fun t145 => (if t145 = true then ((spec_RouteOk.f x122000 x122001 x122002 x122003).bind fun t146 => (if t146 = true then (if (x6.length : Int) > 8 then (some ((([] : List (S29))), false)) else (some (x6, true))) else (some ((([] : List (S29))), false)))) else (some ((([] : List (S29))), false)))
end
def spec_RoutePut.f (k : Nat) (l0 : List (S29)) (a1_0 : Int) (a1_1 : Int) (a1_2 : Int) (a1_3 : Int) : Option ((List (S29)) × Bool) := spec_RoutePut.l0 k l0 (([] : List (S29))) false 0 a1_0 a1_1 a1_2 a1_3
theorem spec_RoutePut.mono_l : ∀ k, (∀ y0 y1 y2 y3 y4 y5 y6 y7, LeO (spec_RoutePut.l0 k y0 y1 y2 y3 y4 y5 y6 y7) (spec_RoutePut.l0 (k + 1) y0 y1 y2 y3 y4 y5 y6 y7)) ∧ (∀ y0 y1 y2 y3 y4 y5 y6 y7 y8 y9 y10 y11 y12, LeO (spec_RoutePut.j1 k y0 y1 y2 y3 y4 y5 y6 y7 y8 y9 y10 y11 y12) (spec_RoutePut.j1 (k + 1) y0 y1 y2 y3 y4 y5 y6 y7 y8 y9 y10 y11 y12)) ∧ (∀ y0 y1 y2 y3 y4 y5, LeO (spec_RoutePut.j2 k y0 y1 y2 y3 y4 y5) (spec_RoutePut.j2 (k + 1) y0 y1 y2 y3 y4 y5))
 | 0 => ⟨fun _ _ _ _ _ _ _ _ r h => by simp [spec_RoutePut.l0] at h, fun _ _ _ _ _ _ _ _ _ _ _ _ _ r h => by simp [spec_RoutePut.j1] at h, fun _ _ _ _ _ _ r h => by simp [spec_RoutePut.j2] at h⟩
 | k + 1 => by
  obtain ⟨ih0, ih1, ih2⟩ := spec_RoutePut.mono_l k
  refine ⟨?_, ?_, ?_⟩
  ·intro y0 y1 y2 y3 y4 y5 y6 y7
   unfold spec_RoutePut.l0
   repeat' first
   | (with_reducible exact ih0 _ _ _ _ _ _ _ _)
   | (with_reducible exact ih1 _ _ _ _ _ _ _ _ _ _ _ _ _)
   | (with_reducible exact ih2 _ _ _ _ _ _)
   | (with_reducible exact spec_RoutesOk.mono _ _)
   | (with_reducible exact LeO.refl _)
   | (with_reducible exact LeO.none _)
   | (with_reducible refine LeO.ite ?_ ?_)
   | (with_reducible refine LeO.bind ?_ (fun _ => ?_))
   | exact ih0 _ _ _ _ _ _ _ _
   | exact ih1 _ _ _ _ _ _ _ _ _ _ _ _ _
   | exact ih2 _ _ _ _ _ _
   | exact spec_RoutesOk.mono _ _
   | exact LeO.none _
   | refine LeO.ite ?_ ?_
   | refine LeO.bind ?_ (fun _ => ?_)
  ·intro y0 y1 y2 y3 y4 y5 y6 y7 y8 y9 y10 y11 y12
   unfold spec_RoutePut.j1
   repeat' first
   | (with_reducible exact ih0 _ _ _ _ _ _ _ _)
   | (with_reducible exact ih1 _ _ _ _ _ _ _ _ _ _ _ _ _)
   | (with_reducible exact ih2 _ _ _ _ _ _)
   | (with_reducible exact spec_RoutesOk.mono _ _)
   | (with_reducible exact LeO.refl _)
   | (with_reducible exact LeO.none _)
   | (with_reducible refine LeO.ite ?_ ?_)
   | (with_reducible refine LeO.bind ?_ (fun _ => ?_))
   | exact ih0 _ _ _ _ _ _ _ _
   | exact ih1 _ _ _ _ _ _ _ _ _ _ _ _ _
   | exact ih2 _ _ _ _ _ _
   | exact spec_RoutesOk.mono _ _
   | exact LeO.none _
   | refine LeO.ite ?_ ?_
   | refine LeO.bind ?_ (fun _ => ?_)
  ·intro y0 y1 y2 y3 y4 y5
   unfold spec_RoutePut.j2
   repeat' first
   | (with_reducible exact ih0 _ _ _ _ _ _ _ _)
   | (with_reducible exact ih1 _ _ _ _ _ _ _ _ _ _ _ _ _)
   | (with_reducible exact ih2 _ _ _ _ _ _)
   | (with_reducible exact spec_RoutesOk.mono _ _)
   | (with_reducible exact LeO.refl _)
   | (with_reducible exact LeO.none _)
   | (with_reducible refine LeO.ite ?_ ?_)
   | (with_reducible refine LeO.bind ?_ (fun _ => ?_))
   | exact ih0 _ _ _ _ _ _ _ _
   | exact ih1 _ _ _ _ _ _ _ _ _ _ _ _ _
   | exact ih2 _ _ _ _ _ _
   | exact spec_RoutesOk.mono _ _
   | exact LeO.none _
   | refine LeO.ite ?_ ?_
   | refine LeO.bind ?_ (fun _ => ?_)
theorem spec_RoutePut.mono : ∀ a0 a1 a2 a3 a4 k, LeO (spec_RoutePut.f k a0 a1 a2 a3 a4) (spec_RoutePut.f (k + 1) a0 a1 a2 a3 a4) := by
 intro a0 a1 a2 a3 a4 k
 obtain ⟨ih0, ih1, ih2⟩ := spec_RoutePut.mono_l k
 unfold spec_RoutePut.f
 repeat' first
   | (with_reducible exact ih0 _ _ _ _ _ _ _ _)
   | (with_reducible exact ih1 _ _ _ _ _ _ _ _ _ _ _ _ _)
   | (with_reducible exact ih2 _ _ _ _ _ _)
   | (with_reducible exact spec_RoutesOk.mono _ _)
   | (with_reducible exact LeO.refl _)
   | (with_reducible exact LeO.none _)
   | (with_reducible refine LeO.ite ?_ ?_)
   | (with_reducible refine LeO.bind ?_ (fun _ => ?_))
   | exact ih0 _ _ _ _ _ _ _ _
   | exact ih1 _ _ _ _ _ _ _ _ _ _ _ _ _
   | exact ih2 _ _ _ _ _ _
   | exact spec_RoutesOk.mono _ _
   | exact LeO.none _
   | refine LeO.ite ?_ ?_
   | refine LeO.bind ?_ (fun _ => ?_)
set_option maxHeartbeats 8000000 in
set_option maxRecDepth 100000 in
theorem spec_RoutePut.calls (k : Nat) (A0 : Option Addr) (c0 : Nat) (l0 : List (S29)) (a1_0 : Int) (a1_1 : Int) (a1_2 : Int) (a1_3 : Int) (r1 : List (S29)) (r2 : Bool) (w : World) (hr0 : Kd.C k29 w A0 l0.length l0) (hc0 : l0.length ≤ c0) (h : spec_RoutePut.f k l0 a1_0 a1_1 a1_2 a1_3 = some (r1, r2)) :
  Calls Try.prog 89 #[.slice A0 l0.length c0, .agg #[.int .i64 a1_0, .int .i64 a1_1, .int .i64 a1_2, .int .i64 a1_3]] w fun e w' => ∃ v0_ : Value, e = .returned (.tuple #[v0_, .bool r2]) ∧ Kd.R k29 29 w' w.heap.size (fun _ => True) v0_ r1 ∧ Below w.heap.size w w' := by
 have hu29 := Try.underlying29
 have HR0 := mk_ hr0
 have HC0 := mk_ hc0
 clear hr0 hc0
 have HB := mk_ (Below.refl w.heap.size w)
 have H : (spec_RoutePut.l0 k l0 (([] : List (S29))) false 0 a1_0 a1_1 a1_2 a1_3) = some (r1, r2) := h
 clear h
 obtain ⟨y122, hy122⟩ : ∃ y_ : List (S29), y_ = (([] : List (S29))) := ⟨_, rfl⟩
 replace H : (spec_RoutePut.l0 k l0 y122 false 0 a1_0 a1_1 a1_2 a1_3) = some (r1, r2) := by first | (rw [hy122]; with_reducible exact H) | (have H2_ := (Option.bind_some _ _).symm.trans H; rw [hy122]; with_reducible exact H2_) | (have H2_ := (Option.bind_some _ _).symm.trans H; with_reducible exact H2_) | with_reducible exact H | (rw [hy122]; exact H) | exact H
 have Ny122 := mk_ hy122
 clear hy122
 have H' := mk_ H
 clear H
 go_enter Try.func89, Try.ntmps89
 go_wp2_with (first | ((with_reducible refine gate_dst (N := 3) rfl ?_); refine box_event ?hg (N := 3) ?hd (cs := #[.int .i64 a1_0, .int .i64 a1_1, .int .i64 a1_2, .int .i64 a1_3]) (t := 29) ?hr ?_; (case hd => rfl); (case hg => rfl); (case hr => first | (go_simp; done) | (go_simp; rfl)); intro gb121 hg w3 hbox hb; have n0_ := mk_ (below_step (ub_ HB.out) hb); have BK121 := mk_ (hbox); have GW121 := mk_ ((by rw [hg]; exact (below_size (ub_ HB.out)) : w.heap.size ≤ gb121)); have GE121 := ge_ ((by rw [hg]; exact (below_size (ub_ HB.out)) : w.heap.size ≤ gb121)); replace HB := n0_; clear n0_; clear hb hbox hg) | ((with_reducible refine gate_dst (N := 10) rfl ?_); refine Kd.R_lit k29 _ 29 ?hg (N := 10) ?hd (xs := ([] : List (S29))) (inner := []) (ok := fun _ => True) (okp := fun _ => True) ?hr ?hp (fun _ hk => hk) trivial (Below.refl _ _) (Nat.le_refl _) (by simp) ?_; (case hd => rfl); (case hg => rfl); (case hr => first | (go_simp; done) | (go_simp; rfl)); (case hp => exact (Reps.none _ _)); intro v123 w4 ho5 hb hg_ hnew_; clear hg_ hnew_; (first | rw [← Ny122.out] at ho5 | (simp only [Int.reduceToNat] at ho5; rw [← Ny122.out] at ho5)); have HO124 := mk_ (Kd.R_lower (Kd.R_newB ho5 (g := gb121) (o := .cells #[.int .i64 a1_0, .int .i64 a1_1, .int .i64 a1_2, .int .i64 a1_3] 29 (0, 0)) (u_ BK121.out)) (below_size (us_ HB.out))); replace BK121 := mk_ (blk_below (u_ BK121.out) hb); replace HB := mk_ (below_step (us_ HB.out) hb); clear hb ho5))
 go_loopg [6, 7, 8] k (fun kq v6 v7 v8 w' => ∃ (x6_1 : List (S29)) (x7_1 : Bool) (x8_1 : Int), v7 = .bool x7_1 ∧ v8 = .int .i64 x8_1 ∧ Aside0 (spec_RoutePut.l0 kq l0 x6_1 x7_1 x8_1 a1_0 a1_1 a1_2 a1_3 = some (r1, r2)) ∧ Aside0 (kq ≤ k) ∧ Aside0 (Kd.R k29 29 w' w.heap.size (fun k_ => k_ ≠ gb121) v6 x6_1) ∧ Aside0 (w'.heap[gb121]? = some (.cells #[.int .i64 a1_0, .int .i64 a1_1, .int .i64 a1_2, .int .i64 a1_3] 29 (0, 0))) ∧ Aside0 (Below w.heap.size w w'))
 case atStart => exact ⟨(y122), (false), (0), (by first | rfl | (simp; done) | (simp [*]; done)), (by first | rfl | (simp; done) | (simp [*]; done)), H', ⟨Nat.le_refl _⟩, ⟨by (with_reducible repeat (first | apply Kd.R_alloc | apply Kd.R_drewN | apply Kd.R_drew)); exact Kd.R_mono HO124.out (fun _ hk => hk.2)⟩, ⟨u_ BK121.out⟩, ⟨us_ HB.out⟩⟩
 case round =>
  clear H'
  try clear p2
  obtain ⟨x6_1, x7_1, x8_1, rfl, rfl, HA, HK1, HO_6, BK121, HB⟩ := hrel
  cases gk with
  | zero => exact absurd HA.out (by simp [spec_RoutePut.l0])
  | succ k1 =>
   have H := HA.out
   clear HA
   simp only [spec_RoutePut.l0] at H
   by_cases c6 : x8_1 < (l0.length : Int)
   rotate_left
   focus
    rw [if_neg c6] at H
    have c6b0 : decide (x8_1 < (l0.length : Int)) = false := decide_eq_false c6
    clear c6
    have HC62 := mk_ H
    clear H
   rotate_left
   focus
    rw [if_pos c6] at H
    have c6b0 : decide (x8_1 < (l0.length : Int)) = true := decide_eq_true c6
    clear c6
    by_cases c7 : 0 ≤ x8_1
    rotate_left
    ·rw [if_neg c7] at H
     exact absurd H (by simp)
    rw [if_pos c7] at H
    have c7b0 : decide (0 ≤ x8_1) = true := decide_eq_true c7
    clear c7
    have HC8 := mk_ H
    clear H
    have p125 : 0 ≤ (x8_1 : Int) := of_decide_eq_true (by first | (with_reducible assumption) | assumption)
    have q125 : x8_1 < (l0.length : Int) := of_decide_eq_true (by first | (with_reducible assumption) | assumption)
    obtain ⟨ad125, e125, hx125_0, hx125_1, hx125_2, hx125_3⟩ := at_T29 HR0.out x8_1 p125 q125
    cases e125
    replace hx125_0 := (HB.out.cell (lc_ w _ hx125_0)).trans hx125_0
    replace hx125_1 := (HB.out.cell (lc_ w _ hx125_1)).trans hx125_1
    replace hx125_2 := (HB.out.cell (lc_ w _ hx125_2)).trans hx125_2
    replace hx125_3 := (HB.out.cell (lc_ w _ hx125_3)).trans hx125_3
    replace p125 := eq_true p125
    replace q125 := eq_true q125
   rotate_left
   ·go_upto_if 65 with (fail)
    go_cut [6] (fun v6 wc => ∃ (kq : Nat) (x6_61 : List (S29)), Aside0 (spec_RoutePut.j2 kq l0 x6_61 a1_0 a1_1 a1_2 a1_3 = some (r1, r2)) ∧ Aside0 (kq ≤ k1) ∧ Aside0 (Kd.R k29 29 wc w.heap.size (fun k_ => k_ ≠ gb121) v6 x6_61) ∧ Aside0 (wc.heap[gb121]? = some (.cells #[.int .i64 a1_0, .int .i64 a1_1, .int .i64 a1_2, .int .i64 a1_3] 29 (0, 0))) ∧ Aside0 (Below w.heap.size w wc))
    case first =>
     have H := HC62.out
     clear HC62
     by_cases c3520 : x7_1 = true
     ·subst c3520
      rw [if_pos rfl] at H
      have H' := mk_ H
      clear H
      go_wp2
      go_meet
      case rel => exact ⟨_, (x6_1), H', ⟨by have := HK1.out; first | omega | exact Nat.le_refl _⟩, ⟨Kd.ur_ HO_6.out⟩, ⟨u_ BK121.out⟩, ⟨us_ HB.out⟩⟩
     replace c3520 := Bool.eq_false_iff.mpr c3520
     subst c3520
     rw [if_neg (show ¬ (false = true) by decide)] at H
     by_cases c64 : x6_1.length < 4398046511104
     rotate_left
     ·rw [if_neg c64] at H
      exact absurd H (by simp)
     rw [if_pos c64] at H
     have LMc3521 := mk_ c64
     clear c64
     obtain ⟨y142, hy142⟩ : ∃ y_ : List (S29), y_ = (x6_1 ++ [(⟨a1_0, a1_1, a1_2, a1_3⟩ : S29)]) := ⟨_, rfl⟩
     replace H : (spec_RoutePut.j2 k1 l0 y142 a1_0 a1_1 a1_2 a1_3) = some (r1, r2) := by first | (rw [hy142]; with_reducible exact H) | (have H2_ := (Option.bind_some _ _).symm.trans H; rw [hy142]; with_reducible exact H2_) | (have H2_ := (Option.bind_some _ _).symm.trans H; with_reducible exact H2_) | with_reducible exact H | (rw [hy142]; exact H) | exact H
     have Ny3522 := mk_ hy142
     clear hy142
     have H' := mk_ H
     clear H
     obtain ⟨hcz630121_0, hcz630121_1, hcz630121_2, hcz630121_3, hfz630121_0, hfz630121_1, hfz630121_2, hfz630121_3⟩ := cells4_ BK121.out
     go_wp2_with (first | ((with_reducible refine gate_builtin (b := .append) (xs := #[.tmp 66, .tmp 68]) rfl ?_); at_builtin; refine Kd.R_append k29 (w0 := w) w.heap.size rfl (.tmp 66) (.tmp 68) 32 29 (.agg #[(.int .i64 0), (.int .i64 0), (.int .i64 0), (.int .i64 0)]) 32 rfl Try.underlying32 info29 rfl (by decide) (by omega) u6 x6_1 (⟨a1_0, a1_1, a1_2, a1_3⟩ : S29) [.int .i64 a1_0, .int .i64 a1_1, .int .i64 a1_2, .int .i64 a1_3] (fun k_ => k_ ≠ gb121) (fun _ => False) rfl rfl ?aP (fun _ hk => hk.elim) ?aF ?aO ?aB ?aS ?aL ?_; (case aP => exact k29_mkM _ _ _ (⟨a1_0, a1_1, a1_2, a1_3⟩ : S29)); (case aB => exact (us_ HB.out)); (case aF => exact (fun k_ hk => Kd.freshB (g := gb121) (o := .cells #[.int .i64 a1_0, .int .i64 a1_1, .int .i64 a1_2, .int .i64 a1_3] 29 (0, 0)) (u_ BK121.out) k_ hk)); (case aO => exact (Kd.ur_ HO_6.out)); (case aS => exact (below_size (us_ HB.out))); (case aL => have := LMc3521.out; omega); intro v3523 w3524 ho hb hg hat; rw [← Ny3522.out] at ho; replace BK121 := mk_ (blk_grown (g := gb121) (o := .cells #[.int .i64 a1_0, .int .i64 a1_1, .int .i64 a1_2, .int .i64 a1_3] 29 (0, 0)) (u_ BK121.out) hg (Kd.R_away HO_6.out (fun _ hk => hk))); replace HB := mk_ (hb); have HO144 := mk_ (ho); clear HO_6; clear ho hb hg hat))
     go_meet
     case rel => exact ⟨_, (y142), H', ⟨by have := HK1.out; first | omega | exact Nat.le_refl _⟩, ⟨Kd.ur_ HO144.out⟩, ⟨u_ BK121.out⟩, ⟨us_ HB.out⟩⟩
    case rest =>
     clear HC62
     try clear c1
     try clear p1
     try clear q1
     try clear hx1
     try clear c2
     try clear p2
     try clear c3
     try clear c4
     try clear c5
     try clear c6
     try clear c6b0
     try clear p6
     try clear c7
     try clear c7b0
     try clear c8
     try clear c10
     try clear c12
     try clear p12
     try clear q12
     try clear hx12
     try clear c13
     try clear c13b0
     try clear c14
     try clear c17
     try clear c17b0
     try clear c17b1
     try clear c18
     try clear c21
     try clear c24
     try clear c25
     try clear c26
     try clear c26b0
     try clear c26b1
     try clear c27
     try clear c27b0
     try clear c27b1
     try clear c28
     try clear c33
     try clear c34
     try clear c40
     try clear c41
     try clear c47
     try clear c47b0
     try clear c47b1
     try clear c48
     try clear c48b0
     try clear c48b1
     try clear c49
     try clear c52
     try clear c53
     try clear c57
     try clear c58
     try clear c3520
     try clear c64
     try clear p64
     try clear hcz11_0
     try clear hcz11_1
     try clear hcz11_2
     try clear hcz11_3
     try clear hcz15_0
     try clear hcz15_1
     try clear hcz15_2
     try clear hcz15_3
     try clear hcz16_0
     try clear hcz16_1
     try clear hcz16_2
     try clear hcz16_3
     try clear hcz19_0
     try clear hcz19_1
     try clear hcz19_2
     try clear hcz19_3
     try clear hcz20_0
     try clear hcz20_1
     try clear hcz20_2
     try clear hcz20_3
     try clear hcz22_0
     try clear hcz22_1
     try clear hcz22_2
     try clear hcz22_3
     try clear hcz23_0
     try clear hcz23_1
     try clear hcz23_2
     try clear hcz23_3
     try clear hcz29_0
     try clear hcz29_1
     try clear hcz29_2
     try clear hcz29_3
     try clear hcz31_0
     try clear hcz31_1
     try clear hcz31_2
     try clear hcz31_3
     try clear hcz32_0
     try clear hcz32_1
     try clear hcz32_2
     try clear hcz32_3
     try clear hcz35_0
     try clear hcz35_1
     try clear hcz35_2
     try clear hcz35_3
     try clear hcz37_0
     try clear hcz37_1
     try clear hcz37_2
     try clear hcz37_3
     try clear hcz38_0
     try clear hcz38_1
     try clear hcz38_2
     try clear hcz38_3
     try clear hcz42_0
     try clear hcz42_1
     try clear hcz42_2
     try clear hcz42_3
     try clear hcz44_0
     try clear hcz44_1
     try clear hcz44_2
     try clear hcz44_3
     try clear hcz45_0
     try clear hcz45_1
     try clear hcz45_2
     try clear hcz45_3
     try clear hcz50_0
     try clear hcz50_1
     try clear hcz50_2
     try clear hcz50_3
     try clear hcz51_0
     try clear hcz51_1
     try clear hcz51_2
     try clear hcz51_3
     try clear hcz54_0
     try clear hcz54_1
     try clear hcz54_2
     try clear hcz54_3
     try clear hcz55_0
     try clear hcz55_1
     try clear hcz55_2
     try clear hcz55_3
     try clear hcz59_0
     try clear hcz59_1
     try clear hcz59_2
     try clear hcz59_3
     try clear hcz60_0
     try clear hcz60_1
     try clear hcz60_2
     try clear hcz60_3
     try clear hcz630121_0
     try clear hcz630121_1
     try clear hcz630121_2
     try clear hcz630121_3
     try clear hfz11_0
     try clear hfz11_1
     try clear hfz11_2
     try clear hfz11_3
     try clear hfz15_0
     try clear hfz15_1
     try clear hfz15_2
     try clear hfz15_3
     try clear hfz16_0
     try clear hfz16_1
     try clear hfz16_2
     try clear hfz16_3
     try clear hfz19_0
     try clear hfz19_1
     try clear hfz19_2
     try clear hfz19_3
     try clear hfz20_0
     try clear hfz20_1
     try clear hfz20_2
     try clear hfz20_3
     try clear hfz22_0
     try clear hfz22_1
     try clear hfz22_2
     try clear hfz22_3
     try clear hfz23_0
     try clear hfz23_1
     try clear hfz23_2
     try clear hfz23_3
     try clear hfz29_0
     try clear hfz29_1
     try clear hfz29_2
     try clear hfz29_3
     try clear hfz31_0
     try clear hfz31_1
     try clear hfz31_2
     try clear hfz31_3
     try clear hfz32_0
     try clear hfz32_1
     try clear hfz32_2
     try clear hfz32_3
     try clear hfz35_0
     try clear hfz35_1
     try clear hfz35_2
     try clear hfz35_3
     try clear hfz37_0
     try clear hfz37_1
     try clear hfz37_2
     try clear hfz37_3
     try clear hfz38_0
     try clear hfz38_1
     try clear hfz38_2
     try clear hfz38_3
     try clear hfz42_0
     try clear hfz42_1
     try clear hfz42_2
     try clear hfz42_3
     try clear hfz44_0
     try clear hfz44_1
     try clear hfz44_2
     try clear hfz44_3
     try clear hfz45_0
     try clear hfz45_1
     try clear hfz45_2
     try clear hfz45_3
     try clear hfz50_0
     try clear hfz50_1
     try clear hfz50_2
     try clear hfz50_3
     try clear hfz51_0
     try clear hfz51_1
     try clear hfz51_2
     try clear hfz51_3
     try clear hfz54_0
     try clear hfz54_1
     try clear hfz54_2
     try clear hfz54_3
     try clear hfz55_0
     try clear hfz55_1
     try clear hfz55_2
     try clear hfz55_3
     try clear hfz59_0
     try clear hfz59_1
     try clear hfz59_2
     try clear hfz59_3
     try clear hfz60_0
     try clear hfz60_1
     try clear hfz60_2
     try clear hfz60_3
     try clear hfz630121_0
     try clear hfz630121_1
     try clear hfz630121_2
     try clear hfz630121_3
     try clear hx125_0
     try clear hx125_1
     try clear hx125_2
     try clear hx125_3
     try clear p1
     try clear p12
     try clear p125
     try clear p2
     try clear q1
     try clear q12
     try clear q125
     obtain ⟨kq, x6_61, HA, HJ3560, HO_6, BK121, HB⟩ := hcut
     cases kq with
     | zero => exact absurd HA.out (by simp [spec_RoutePut.j2])
     | succ kj61 =>
      have H := HA.out
      clear HA
      simp only [spec_RoutePut.j2] at H
      replace H := Option.bind_eq_some_iff.mp H
      obtain ⟨t3561, A3562, H⟩ := H
      (try dsimp only at H)
      have A3563 := mk_ A3562
      clear A3562
      by_cases c3564 : t3561 = true
      rotate_left
      focus
       replace c3564 := Bool.eq_false_iff.mpr c3564
       subst c3564
       have H3565 : (some ((([] : List (S29))), false)) = some (r1, r2) := by rw [if_neg (show ¬ (false = true) by decide)] at H; exact H
       clear H
       have H := H3565
       clear H3565
       obtain ⟨y153, hy153⟩ : ∃ y_ : List (S29), y_ = (([] : List (S29))) := ⟨_, rfl⟩
       replace H : (some (y153, false)) = some (r1, r2) := by first | (rw [hy153]; with_reducible exact H) | (have H2_ := (Option.bind_some _ _).symm.trans H; rw [hy153]; with_reducible exact H2_) | (have H2_ := (Option.bind_some _ _).symm.trans H; with_reducible exact H2_) | with_reducible exact H | (rw [hy153]; exact H) | exact H
       have Ny3566 := mk_ hy153
       clear hy153
       simp only [Option.some.injEq, Prod.mk.injEq] at H
       obtain ⟨rfl, rfl⟩ := H
      rotate_left
      focus
       subst c3564
       rw [if_pos rfl] at H
       replace H := Option.bind_eq_some_iff.mp H
       obtain ⟨t3571, A3572, H⟩ := H
       (try dsimp only at H)
       have A3573 := mk_ A3572
       clear A3572
       by_cases c3574 : t3571 = true
       rotate_left
       focus
        replace c3574 := Bool.eq_false_iff.mpr c3574
        subst c3574
        have H3565 : (some ((([] : List (S29))), false)) = some (r1, r2) := by rw [if_neg (show ¬ (false = true) by decide)] at H; exact H
        clear H
        have H := H3565
        clear H3565
        obtain ⟨y150, hy150⟩ : ∃ y_ : List (S29), y_ = (([] : List (S29))) := ⟨_, rfl⟩
        replace H : (some (y150, false)) = some (r1, r2) := by first | (rw [hy150]; with_reducible exact H) | (have H2_ := (Option.bind_some _ _).symm.trans H; rw [hy150]; with_reducible exact H2_) | (have H2_ := (Option.bind_some _ _).symm.trans H; with_reducible exact H2_) | with_reducible exact H | (rw [hy150]; exact H) | exact H
        have Ny3575 := mk_ hy150
        clear hy150
        simp only [Option.some.injEq, Prod.mk.injEq] at H
        obtain ⟨rfl, rfl⟩ := H
       rotate_left
       focus
        subst c3574
        rw [if_pos rfl] at H
        by_cases c71 : (x6_61.length : Int) > 8
        rotate_left
        focus
         rw [if_neg c71] at H
         have c71b0 : decide (8 < (x6_61.length : Int)) = false := decide_eq_false c71
         have c71b1 : decide (8 < x6_61.length) = false := decide_eq_false (by omega)
         clear c71
         simp only [Option.some.injEq, Prod.mk.injEq] at H
         obtain ⟨rfl, rfl⟩ := H
        rotate_left
        focus
         rw [if_pos c71] at H
         have c71b0 : decide (8 < (x6_61.length : Int)) = true := decide_eq_true c71
         have c71b1 : decide (8 < x6_61.length) = true := decide_eq_true (by omega)
         clear c71
         obtain ⟨y147, hy147⟩ : ∃ y_ : List (S29), y_ = (([] : List (S29))) := ⟨_, rfl⟩
         replace H : (some (y147, false)) = some (r1, r2) := by first | (rw [hy147]; with_reducible exact H) | (have H2_ := (Option.bind_some _ _).symm.trans H; rw [hy147]; with_reducible exact H2_) | (have H2_ := (Option.bind_some _ _).symm.trans H; with_reducible exact H2_) | with_reducible exact H | (rw [hy147]; exact H) | exact H
         have Ny3584 := mk_ hy147
         clear hy147
         simp only [Option.some.injEq, Prod.mk.injEq] at H
         obtain ⟨rfl, rfl⟩ := H
        rotate_left
       rotate_left 2
      rotate_left 3
      have z27_ := trivial
      rotate_left
      have z28_ := trivial
      rotate_left
      rotate_left
      have z29_ := trivial
      rotate_left
      all_goals
       go_wp2_with (first | ((with_reducible refine gate_callee (f := 84) rfl ?_); refine goesL_ (some 71) rfl rfl Try.func84 (by kernel_rfl) rfl #[.slice A0 l0.length c0] rfl (by (try simp only [lm_, lo_, ln_]); try rfl) ?_; (with_reducible refine (spec_RoutesOk.calls kj61 _ _ l0 false _ ?side1 ?side2 A3563.out).mono ?_); (case side1 => repeat (first | exact (Kd.C_below HR0.out HB.out) | (with_reducible refine Kd.C_alloc ?_ _) | (with_reducible refine Kd.C_drewN ?_ _) | (with_reducible refine Kd.C_drew ?_))); (case side2 => exact HC0.out); rintro e w3800 ⟨rfl, hb⟩; refine ⟨_, rfl, ?_⟩; replace HO_6 := mk_ (Kd.R_below (Kd.ur_ HO_6.out) hb); replace BK121 := mk_ (blk_below (u_ BK121.out) hb); replace HB := mk_ (below_step (us_ HB.out) hb)) | ((with_reducible refine gate_callee (f := 84) rfl ?_); refine goesL_ (some 71) rfl rfl Try.func84 (by kernel_rfl) rfl #[.slice A0 l0.length c0] rfl (by (try simp only [lm_, lo_, ln_]); try rfl) ?_; (with_reducible refine (spec_RoutesOk.calls kj61 _ _ l0 true _ ?side1 ?side2 A3563.out).mono ?_); (case side1 => repeat (first | exact (Kd.C_below HR0.out HB.out) | (with_reducible refine Kd.C_alloc ?_ _) | (with_reducible refine Kd.C_drewN ?_ _) | (with_reducible refine Kd.C_drew ?_))); (case side2 => exact HC0.out); rintro e w3800 ⟨rfl, hb⟩; refine ⟨_, rfl, ?_⟩; replace HO_6 := mk_ (Kd.R_below (Kd.ur_ HO_6.out) hb); replace BK121 := mk_ (blk_below (u_ BK121.out) hb); replace HB := mk_ (below_step (us_ HB.out) hb); obtain ⟨_, _, _, _, _, _, _, _⟩ := cells4_ BK121.out) | (have zz_ := z27_; clear zz_; (with_reducible refine gate_dst (N := 83) rfl ?_); refine Kd.R_lit k29 _ 29 ?hg (N := 83) ?hd (xs := ([] : List (S29))) (inner := []) (ok := fun _ => True) (okp := fun _ => True) ?hr ?hp (fun _ hk => hk) trivial (Below.refl _ _) (Nat.le_refl _) (by simp) ?_; (case hd => rfl); (case hg => rfl); (case hr => first | (go_simp; done) | (go_simp; rfl)); (case hp => exact (Reps.none _ _)); intro v3840 w3841 ho3842 hb hg_ hnew_; clear hg_ hnew_; (first | rw [← Ny3566.out] at ho3842 | (simp only [Int.reduceToNat] at ho3842; rw [← Ny3566.out] at ho3842)); have n0_ := mk_ (Kd.R_elder' (Kd.ur_ HO_6.out) (Kd.R_base ho3842) hb); have HO155 := mk_ (Kd.R_lower (Kd.R_newB (Kd.R_new' ho3842 (Kd.R_lt (Kd.ur_ HO_6.out))) (g := gb121) (o := .cells #[.int .i64 a1_0, .int .i64 a1_1, .int .i64 a1_2, .int .i64 a1_3] 29 (0, 0)) (u_ BK121.out)) (below_size (us_ HB.out))); replace BK121 := mk_ (blk_below (u_ BK121.out) hb); replace HB := mk_ (below_step (us_ HB.out) hb); replace HO_6 := n0_; clear n0_; clear hb ho3842) | (have zz_ := z28_; clear zz_; (with_reducible refine gate_dst (N := 83) rfl ?_); refine Kd.R_lit k29 _ 29 ?hg (N := 83) ?hd (xs := ([] : List (S29))) (inner := []) (ok := fun _ => True) (okp := fun _ => True) ?hr ?hp (fun _ hk => hk) trivial (Below.refl _ _) (Nat.le_refl _) (by simp) ?_; (case hd => rfl); (case hg => rfl); (case hr => first | (go_simp; done) | (go_simp; rfl)); (case hp => exact (Reps.none _ _)); intro v3840 w3841 ho3842 hb hg_ hnew_; clear hg_ hnew_; (first | rw [← Ny3575.out] at ho3842 | (simp only [Int.reduceToNat] at ho3842; rw [← Ny3575.out] at ho3842)); have n0_ := mk_ (Kd.R_elder' (Kd.ur_ HO_6.out) (Kd.R_base ho3842) hb); have HO152 := mk_ (Kd.R_lower (Kd.R_newB (Kd.R_new' ho3842 (Kd.R_lt (Kd.ur_ HO_6.out))) (g := gb121) (o := .cells #[.int .i64 a1_0, .int .i64 a1_1, .int .i64 a1_2, .int .i64 a1_3] 29 (0, 0)) (u_ BK121.out)) (below_size (us_ HB.out))); replace BK121 := mk_ (blk_below (u_ BK121.out) hb); replace HB := mk_ (below_step (us_ HB.out) hb); replace HO_6 := n0_; clear n0_; clear hb ho3842) | (have zz_ := z29_; clear zz_; (with_reducible refine gate_dst (N := 83) rfl ?_); refine Kd.R_lit k29 _ 29 ?hg (N := 83) ?hd (xs := ([] : List (S29))) (inner := []) (ok := fun _ => True) (okp := fun _ => True) ?hr ?hp (fun _ hk => hk) trivial (Below.refl _ _) (Nat.le_refl _) (by simp) ?_; (case hd => rfl); (case hg => rfl); (case hr => first | (go_simp; done) | (go_simp; rfl)); (case hp => exact (Reps.none _ _)); intro v3840 w3841 ho3842 hb hg_ hnew_; clear hg_ hnew_; (first | rw [← Ny3584.out] at ho3842 | (simp only [Int.reduceToNat] at ho3842; rw [← Ny3584.out] at ho3842)); have n0_ := mk_ (Kd.R_elder' (Kd.ur_ HO_6.out) (Kd.R_base ho3842) hb); have HO149 := mk_ (Kd.R_lower (Kd.R_newB (Kd.R_new' ho3842 (Kd.R_lt (Kd.ur_ HO_6.out))) (g := gb121) (o := .cells #[.int .i64 a1_0, .int .i64 a1_1, .int .i64 a1_2, .int .i64 a1_3] 29 (0, 0)) (u_ BK121.out)) (below_size (us_ HB.out))); replace BK121 := mk_ (blk_below (u_ BK121.out) hb); replace HB := mk_ (below_step (us_ HB.out) hb); replace HO_6 := n0_; clear n0_; clear hb ho3842) | (go_at_call 117; (with_reducible refine (spec_RouteOk.calls a1_0 a1_1 a1_2 a1_3 false _ A3573.out).mono ?_); rintro e w4360 ⟨rfl, hb⟩; replace HO_6 := mk_ (Kd.R_below (Kd.ur_ HO_6.out) hb); replace BK121 := mk_ (blk_below (u_ BK121.out) hb); replace HB := mk_ (below_step (us_ HB.out) hb)) | (go_at_call 117; (with_reducible refine (spec_RouteOk.calls a1_0 a1_1 a1_2 a1_3 true _ A3573.out).mono ?_); rintro e w4400 ⟨rfl, hb⟩; replace HO_6 := mk_ (Kd.R_below (Kd.ur_ HO_6.out) hb); replace BK121 := mk_ (blk_below (u_ BK121.out) hb); replace HB := mk_ (below_step (us_ HB.out) hb); obtain ⟨Ao4401, co4401, eo4401⟩ := Kd.R_slice HO_6.out; subst eo4401))
       go_ret2
      ·exact ⟨_, by first | rfl | (simp [errW_none, errW_some] <;> rfl) | (simp [*, errW_none, errW_some] <;> rfl), by (with_reducible repeat (first | apply Kd.R_alloc | apply Kd.R_drewN | apply Kd.R_drew)); exact Kd.R_mono HO155.out (fun _ hk => trivial), us_ HB.out⟩
      ·exact ⟨_, by first | rfl | (simp [errW_none, errW_some] <;> rfl) | (simp [*, errW_none, errW_some] <;> rfl), by (with_reducible repeat (first | apply Kd.R_alloc | apply Kd.R_drewN | apply Kd.R_drew)); exact Kd.R_mono HO152.out (fun _ hk => trivial), us_ HB.out⟩
      ·exact ⟨_, by first | rfl | (simp [errW_none, errW_some] <;> rfl) | (simp [*, errW_none, errW_some] <;> rfl), by (with_reducible repeat (first | apply Kd.R_alloc | apply Kd.R_drewN | apply Kd.R_drew)); exact Kd.R_mono HO_6.out (fun _ hk => trivial), us_ HB.out⟩
      ·exact ⟨_, by first | rfl | (simp [errW_none, errW_some] <;> rfl) | (simp [*, errW_none, errW_some] <;> rfl), by (with_reducible repeat (first | apply Kd.R_alloc | apply Kd.R_drewN | apply Kd.R_drew)); exact Kd.R_mono HO149.out (fun _ hk => trivial), us_ HB.out⟩
   ·go_upto_region 7 with (first | ((with_reducible refine gate_dst (N := 9) rfl ?_); refine box_event ?hg (N := 9) ?hd (cs := #[.int .i64 0, .int .i64 0, .int .i64 0, .int .i64 0]) (t := 29) ?hr ?_; (case hd => rfl); (case hg => rfl); (case hr => first | (go_simp; done) | (go_simp; rfl)); intro gb3160 hg w3161 hbox hb; replace HO_6 := mk_ (Kd.R_below (Kd.R_elderB (Kd.ur_ HO_6.out) gb3160 (Nat.le_of_eq hg.symm)) hb); have n1_ := mk_ (blk_below (u_ BK121.out) hb); have n2_ := mk_ (below_step (us_ HB.out) hb); have BK126 := mk_ (hbox); have GW126 := mk_ ((by rw [hg]; exact (below_size (us_ HB.out)) : w.heap.size ≤ gb3160)); have GE126 := ge_ ((by rw [hg]; exact (below_size (us_ HB.out)) : w.heap.size ≤ gb3160)); have NB121_126 := nq_ ((by rw [hg]; exact Nat.ne_of_lt (blk_lt (u_ BK121.out)) : gb121 ≠ gb3160)); have NB126_121 := nq_ ((by rw [hg]; exact Nat.ne_of_gt (blk_lt (u_ BK121.out)) : gb3160 ≠ gb121)); replace BK121 := n1_; replace HB := n2_; clear n1_ n2_; clear hb hbox hg; have hnb540121126 := NB126_121.out; have hnc540121126 := NB121_126.out; obtain ⟨hcz540126_0, hcz540126_1, hcz540126_2, hcz540126_3, hfz540126_0, hfz540126_1, hfz540126_2, hfz540126_3⟩ := cells4_ BK126.out))
    (try simp only [Act.put, la_, lz_, ls_])
    go_cut [43] (fun v3240 wc => ∃ (kq : Nat) (x43_7 : Bool), v3240 = .bool x43_7 ∧ Aside0 (spec_RoutePut.j1 kq l0 x6_1 x7_1 x8_1 x43_7 a1_0 a1_1 a1_2 a1_3 ((rd_T29 l0 x8_1).f0) ((rd_T29 l0 x8_1).f1) ((rd_T29 l0 x8_1).f2) ((rd_T29 l0 x8_1).f3) = some (r1, r2)) ∧ Aside0 (kq ≤ k1) ∧ Aside0 (Kd.R k29 29 wc w.heap.size (fun k_ => k_ ≠ gb121 ∧ k_ ≠ gb3160) u6 x6_1) ∧ Aside0 (wc.heap[gb121]? = some (.cells #[.int .i64 a1_0, .int .i64 a1_1, .int .i64 a1_2, .int .i64 a1_3] 29 (0, 0))) ∧ Aside0 (wc.heap[gb3160]? = some (.cells #[.int .i64 ((rd_T29 l0 x8_1).f0), .int .i64 ((rd_T29 l0 x8_1).f1), .int .i64 ((rd_T29 l0 x8_1).f2), .int .i64 ((rd_T29 l0 x8_1).f3)] 29 (0, 0))) ∧ Aside0 (Below w.heap.size w wc))
    case first =>
     have H := HC8.out
     clear HC8
     by_cases c3600 : x7_1 = true
     ·subst c3600
      rw [if_pos rfl] at H
      have H' := mk_ H
      clear H
      go_wp2
      go_meet
      case rel => exact ⟨_, (false), (by first | rfl | (simp; done) | (simp [*]; done)), H', ⟨by have := HK1.out; first | omega | exact Nat.le_refl _⟩, ⟨by (with_reducible repeat (first | apply Kd.R_alloc | apply Kd.R_drewN | apply Kd.R_drew)); exact Kd.R_mono (Kd.R_far (p := ⟨gb3160, 3, none⟩) (Kd.R_far (p := ⟨gb3160, 2, none⟩) (Kd.R_far (p := ⟨gb3160, 1, none⟩) (Kd.R_far (p := ⟨gb3160, 0, none⟩) (Kd.R_mono HO_6.out (fun k_ hk => (⟨hk, hk.2⟩ : _ ∧ k_ ≠ gb3160))) (fun _ hk => hk.2) (.int .i64 ((rd_T29 l0 x8_1).f0))) (fun _ hk => hk.2) (.int .i64 ((rd_T29 l0 x8_1).f1))) (fun _ hk => hk.2) (.int .i64 ((rd_T29 l0 x8_1).f2))) (fun _ hk => hk.2) (.int .i64 ((rd_T29 l0 x8_1).f3))) (fun _ hk => by first | exact ⟨hk.1.1, hk.1.2⟩ | exact hk.1 | exact hk | exact ⟨hk.1, hk.2⟩ | exact ⟨.inr hk.1, hk.2⟩ | simp only [hk, ne_eq, not_false_eq_true, and_self])⟩, ⟨uf_ BK121.out⟩, ⟨by (with_reducible repeat (first | refine bn_ ?_ _ | refine bw_ ?_ | refine ba_ ?_ _)); refine blk_put (cs := #[.int .i64 ((rd_T29 l0 x8_1).f0), .int .i64 ((rd_T29 l0 x8_1).f1), .int .i64 ((rd_T29 l0 x8_1).f2), .int .i64 0]) ?_ 3 _ rfl; (with_reducible repeat (first | refine bn_ ?_ _ | refine bw_ ?_ | refine ba_ ?_ _)); refine blk_put (cs := #[.int .i64 ((rd_T29 l0 x8_1).f0), .int .i64 ((rd_T29 l0 x8_1).f1), .int .i64 0, .int .i64 0]) ?_ 2 _ rfl; (with_reducible repeat (first | refine bn_ ?_ _ | refine bw_ ?_ | refine ba_ ?_ _)); refine blk_put (cs := #[.int .i64 ((rd_T29 l0 x8_1).f0), .int .i64 0, .int .i64 0, .int .i64 0]) ?_ 1 _ rfl; (with_reducible repeat (first | refine bn_ ?_ _ | refine bw_ ?_ | refine ba_ ?_ _)); refine blk_put (cs := #[.int .i64 0, .int .i64 0, .int .i64 0, .int .i64 0]) ?_ 0 _ rfl; (with_reducible repeat (first | refine bn_ ?_ _ | refine bw_ ?_ | refine ba_ ?_ _)); exact BK126.out⟩, ⟨us_ HB.out⟩⟩
     replace c3600 := Bool.eq_false_iff.mpr c3600
     subst c3600
     rw [if_neg (show ¬ (false = true) by decide)] at H
     by_cases c13 : a1_1 < ((rd_T29 l0 x8_1).f1)
     ·rw [if_pos c13] at H
      have c13b0 : decide (a1_1 < ((rd_T29 l0 x8_1).f1)) = true := decide_eq_true c13
      clear c13
      (first | rw [c13b0] | (simp only [i64_w, i32_w]; rw [c13b0]) | skip)
      have H' := mk_ H
      clear H
      have hnb650121126 := NB121_126.out
      have hnc650121126 := NB126_121.out
      obtain ⟨hcz650121_0, hcz650121_1, hcz650121_2, hcz650121_3, hfz650121_0, hfz650121_1, hfz650121_2, hfz650121_3⟩ := cells4_ BK121.out
      obtain ⟨hcz650126_0, hcz650126_1, hcz650126_2, hcz650126_3, hfz650126_0, hfz650126_1, hfz650126_2, hfz650126_3⟩ := cells4_ BK126.out
      go_wp2
      go_meet
      case rel => exact ⟨_, (true), (by first | rfl | (simp; done) | (simp [*]; done)), H', ⟨by have := HK1.out; first | omega | exact Nat.le_refl _⟩, ⟨by (with_reducible repeat (first | apply Kd.R_alloc | apply Kd.R_drewN | apply Kd.R_drew)); exact Kd.R_mono (Kd.R_far (p := ⟨gb3160, 3, none⟩) (Kd.R_far (p := ⟨gb3160, 2, none⟩) (Kd.R_far (p := ⟨gb3160, 1, none⟩) (Kd.R_far (p := ⟨gb3160, 0, none⟩) (Kd.R_mono HO_6.out (fun k_ hk => (⟨hk, hk.2⟩ : _ ∧ k_ ≠ gb3160))) (fun _ hk => hk.2) (.int .i64 ((rd_T29 l0 x8_1).f0))) (fun _ hk => hk.2) (.int .i64 ((rd_T29 l0 x8_1).f1))) (fun _ hk => hk.2) (.int .i64 ((rd_T29 l0 x8_1).f2))) (fun _ hk => hk.2) (.int .i64 ((rd_T29 l0 x8_1).f3))) (fun _ hk => by first | exact ⟨hk.1.1, hk.1.2⟩ | exact hk.1 | exact hk | exact ⟨hk.1, hk.2⟩ | exact ⟨.inr hk.1, hk.2⟩ | simp only [hk, ne_eq, not_false_eq_true, and_self])⟩, ⟨uf_ BK121.out⟩, ⟨by (with_reducible repeat (first | refine bn_ ?_ _ | refine bw_ ?_ | refine ba_ ?_ _)); refine blk_put (cs := #[.int .i64 ((rd_T29 l0 x8_1).f0), .int .i64 ((rd_T29 l0 x8_1).f1), .int .i64 ((rd_T29 l0 x8_1).f2), .int .i64 0]) ?_ 3 _ rfl; (with_reducible repeat (first | refine bn_ ?_ _ | refine bw_ ?_ | refine ba_ ?_ _)); refine blk_put (cs := #[.int .i64 ((rd_T29 l0 x8_1).f0), .int .i64 ((rd_T29 l0 x8_1).f1), .int .i64 0, .int .i64 0]) ?_ 2 _ rfl; (with_reducible repeat (first | refine bn_ ?_ _ | refine bw_ ?_ | refine ba_ ?_ _)); refine blk_put (cs := #[.int .i64 ((rd_T29 l0 x8_1).f0), .int .i64 0, .int .i64 0, .int .i64 0]) ?_ 1 _ rfl; (with_reducible repeat (first | refine bn_ ?_ _ | refine bw_ ?_ | refine ba_ ?_ _)); refine blk_put (cs := #[.int .i64 0, .int .i64 0, .int .i64 0, .int .i64 0]) ?_ 0 _ rfl; (with_reducible repeat (first | refine bn_ ?_ _ | refine bw_ ?_ | refine ba_ ?_ _)); exact BK126.out⟩, ⟨us_ HB.out⟩⟩
     rw [if_neg c13] at H
     have c13b0 : decide (a1_1 < ((rd_T29 l0 x8_1).f1)) = false := decide_eq_false c13
     clear c13
     (first | rw [c13b0] | (simp only [i64_w, i32_w]; rw [c13b0]) | skip)
     by_cases c17 : a1_1 = ((rd_T29 l0 x8_1).f1)
     rotate_left
     ·rw [if_neg c17] at H
      have c17b0 : (a1_1 == ((rd_T29 l0 x8_1).f1)) = false := beq_eq_false_iff_ne.mpr c17
      have c17b1 : (a1_1 != ((rd_T29 l0 x8_1).f1)) = true := bne_iff_ne.mpr c17
      have H' := mk_ H
      clear H
      have hnb650121126 := NB121_126.out
      have hnc650121126 := NB126_121.out
      obtain ⟨hcz650121_0, hcz650121_1, hcz650121_2, hcz650121_3, hfz650121_0, hfz650121_1, hfz650121_2, hfz650121_3⟩ := cells4_ BK121.out
      obtain ⟨hcz650126_0, hcz650126_1, hcz650126_2, hcz650126_3, hfz650126_0, hfz650126_1, hfz650126_2, hfz650126_3⟩ := cells4_ BK126.out
      go_wp2
      go_meet
      case rel => exact ⟨_, (false), (by first | rfl | (simp; done) | (simp [*]; done)), H', ⟨by have := HK1.out; first | omega | exact Nat.le_refl _⟩, ⟨by (with_reducible repeat (first | apply Kd.R_alloc | apply Kd.R_drewN | apply Kd.R_drew)); exact Kd.R_mono (Kd.R_far (p := ⟨gb3160, 3, none⟩) (Kd.R_far (p := ⟨gb3160, 2, none⟩) (Kd.R_far (p := ⟨gb3160, 1, none⟩) (Kd.R_far (p := ⟨gb3160, 0, none⟩) (Kd.R_mono HO_6.out (fun k_ hk => (⟨hk, hk.2⟩ : _ ∧ k_ ≠ gb3160))) (fun _ hk => hk.2) (.int .i64 ((rd_T29 l0 x8_1).f0))) (fun _ hk => hk.2) (.int .i64 ((rd_T29 l0 x8_1).f1))) (fun _ hk => hk.2) (.int .i64 ((rd_T29 l0 x8_1).f2))) (fun _ hk => hk.2) (.int .i64 ((rd_T29 l0 x8_1).f3))) (fun _ hk => by first | exact ⟨hk.1.1, hk.1.2⟩ | exact hk.1 | exact hk | exact ⟨hk.1, hk.2⟩ | exact ⟨.inr hk.1, hk.2⟩ | simp only [hk, ne_eq, not_false_eq_true, and_self])⟩, ⟨uf_ BK121.out⟩, ⟨by (with_reducible repeat (first | refine bn_ ?_ _ | refine bw_ ?_ | refine ba_ ?_ _)); refine blk_put (cs := #[.int .i64 ((rd_T29 l0 x8_1).f0), .int .i64 ((rd_T29 l0 x8_1).f1), .int .i64 ((rd_T29 l0 x8_1).f2), .int .i64 0]) ?_ 3 _ rfl; (with_reducible repeat (first | refine bn_ ?_ _ | refine bw_ ?_ | refine ba_ ?_ _)); refine blk_put (cs := #[.int .i64 ((rd_T29 l0 x8_1).f0), .int .i64 ((rd_T29 l0 x8_1).f1), .int .i64 0, .int .i64 0]) ?_ 2 _ rfl; (with_reducible repeat (first | refine bn_ ?_ _ | refine bw_ ?_ | refine ba_ ?_ _)); refine blk_put (cs := #[.int .i64 ((rd_T29 l0 x8_1).f0), .int .i64 0, .int .i64 0, .int .i64 0]) ?_ 1 _ rfl; (with_reducible repeat (first | refine bn_ ?_ _ | refine bw_ ?_ | refine ba_ ?_ _)); refine blk_put (cs := #[.int .i64 0, .int .i64 0, .int .i64 0, .int .i64 0]) ?_ 0 _ rfl; (with_reducible repeat (first | refine bn_ ?_ _ | refine bw_ ?_ | refine ba_ ?_ _)); exact BK126.out⟩, ⟨us_ HB.out⟩⟩
     rw [if_pos c17] at H
     have c17b0 : (a1_1 == ((rd_T29 l0 x8_1).f1)) = true := beq_iff_eq.mpr c17
     have c17b1 : (a1_1 != ((rd_T29 l0 x8_1).f1)) = false := bne_eq_false_iff_eq.mpr c17
     clear c17
     have H' := mk_ H
     clear H
     have hnb650121126 := NB121_126.out
     have hnc650121126 := NB126_121.out
     obtain ⟨hcz650121_0, hcz650121_1, hcz650121_2, hcz650121_3, hfz650121_0, hfz650121_1, hfz650121_2, hfz650121_3⟩ := cells4_ BK121.out
     obtain ⟨hcz650126_0, hcz650126_1, hcz650126_2, hcz650126_3, hfz650126_0, hfz650126_1, hfz650126_2, hfz650126_3⟩ := cells4_ BK126.out
     go_wp2
     go_meet
     case rel => exact ⟨_, (decide (a1_0 ≤ ((rd_T29 l0 x8_1).f0))), (by first | rfl | (simp; done) | (simp [*]; done)), H', ⟨by have := HK1.out; first | omega | exact Nat.le_refl _⟩, ⟨by (with_reducible repeat (first | apply Kd.R_alloc | apply Kd.R_drewN | apply Kd.R_drew)); exact Kd.R_mono (Kd.R_far (p := ⟨gb3160, 3, none⟩) (Kd.R_far (p := ⟨gb3160, 2, none⟩) (Kd.R_far (p := ⟨gb3160, 1, none⟩) (Kd.R_far (p := ⟨gb3160, 0, none⟩) (Kd.R_mono HO_6.out (fun k_ hk => (⟨hk, hk.2⟩ : _ ∧ k_ ≠ gb3160))) (fun _ hk => hk.2) (.int .i64 ((rd_T29 l0 x8_1).f0))) (fun _ hk => hk.2) (.int .i64 ((rd_T29 l0 x8_1).f1))) (fun _ hk => hk.2) (.int .i64 ((rd_T29 l0 x8_1).f2))) (fun _ hk => hk.2) (.int .i64 ((rd_T29 l0 x8_1).f3))) (fun _ hk => by first | exact ⟨hk.1.1, hk.1.2⟩ | exact hk.1 | exact hk | exact ⟨hk.1, hk.2⟩ | exact ⟨.inr hk.1, hk.2⟩ | simp only [hk, ne_eq, not_false_eq_true, and_self])⟩, ⟨uf_ BK121.out⟩, ⟨by (with_reducible repeat (first | refine bn_ ?_ _ | refine bw_ ?_ | refine ba_ ?_ _)); refine blk_put (cs := #[.int .i64 ((rd_T29 l0 x8_1).f0), .int .i64 ((rd_T29 l0 x8_1).f1), .int .i64 ((rd_T29 l0 x8_1).f2), .int .i64 0]) ?_ 3 _ rfl; (with_reducible repeat (first | refine bn_ ?_ _ | refine bw_ ?_ | refine ba_ ?_ _)); refine blk_put (cs := #[.int .i64 ((rd_T29 l0 x8_1).f0), .int .i64 ((rd_T29 l0 x8_1).f1), .int .i64 0, .int .i64 0]) ?_ 2 _ rfl; (with_reducible repeat (first | refine bn_ ?_ _ | refine bw_ ?_ | refine ba_ ?_ _)); refine blk_put (cs := #[.int .i64 ((rd_T29 l0 x8_1).f0), .int .i64 0, .int .i64 0, .int .i64 0]) ?_ 1 _ rfl; (with_reducible repeat (first | refine bn_ ?_ _ | refine bw_ ?_ | refine ba_ ?_ _)); refine blk_put (cs := #[.int .i64 0, .int .i64 0, .int .i64 0, .int .i64 0]) ?_ 0 _ rfl; (with_reducible repeat (first | refine bn_ ?_ _ | refine bw_ ?_ | refine ba_ ?_ _)); exact BK126.out⟩, ⟨us_ HB.out⟩⟩
    case rest =>
     clear HC8
     try clear c1
     try clear p1
     try clear q1
     try clear hx1
     try clear c2
     try clear p2
     try clear c6
     try clear c6b0
     try clear c7
     try clear c7b0
     try clear c8
     try clear c10
     try clear c3600
     try clear p12
     try clear q12
     try clear hx12
     try clear c13
     try clear c13b0
     try clear c14
     try clear c17
     try clear c17b0
     try clear c17b1
     try clear c18
     try clear c21
     try clear hcz540126_0
     try clear hcz540126_1
     try clear hcz540126_2
     try clear hcz540126_3
     try clear hcz650121_0
     try clear hcz650121_1
     try clear hcz650121_2
     try clear hcz650121_3
     try clear hcz650126_0
     try clear hcz650126_1
     try clear hcz650126_2
     try clear hcz650126_3
     try clear hcz650121_0
     try clear hcz650121_1
     try clear hcz650121_2
     try clear hcz650121_3
     try clear hcz650126_0
     try clear hcz650126_1
     try clear hcz650126_2
     try clear hcz650126_3
     try clear hcz650121_0
     try clear hcz650121_1
     try clear hcz650121_2
     try clear hcz650121_3
     try clear hcz650126_0
     try clear hcz650126_1
     try clear hcz650126_2
     try clear hcz650126_3
     try clear hfz540126_0
     try clear hfz540126_1
     try clear hfz540126_2
     try clear hfz540126_3
     try clear hfz650121_0
     try clear hfz650121_1
     try clear hfz650121_2
     try clear hfz650121_3
     try clear hfz650126_0
     try clear hfz650126_1
     try clear hfz650126_2
     try clear hfz650126_3
     try clear hfz650121_0
     try clear hfz650121_1
     try clear hfz650121_2
     try clear hfz650121_3
     try clear hfz650126_0
     try clear hfz650126_1
     try clear hfz650126_2
     try clear hfz650126_3
     try clear hfz650121_0
     try clear hfz650121_1
     try clear hfz650121_2
     try clear hfz650121_3
     try clear hfz650126_0
     try clear hfz650126_1
     try clear hfz650126_2
     try clear hfz650126_3
     try clear hx125_0
     try clear hx125_1
     try clear hx125_2
     try clear hx125_3
     try clear p125
     try clear p2
     try clear q125
     obtain ⟨kq, x43_7, rfl, HA, HJ3640, HO_6, BK121, BK126, HB⟩ := hcut
     cases kq with
     | zero => exact absurd HA.out (by simp [spec_RoutePut.j1])
     | succ kj7 =>
      have H := HA.out
      clear HA
      simp only [spec_RoutePut.j1] at H
      by_cases c3641 : x43_7 = true
      ·subst c3641
       rw [if_pos rfl] at H
       by_cases c25 : x6_1.length < 4398046511104
       rotate_left
       ·rw [if_neg c25] at H
        exact absurd H (by simp)
       rw [if_pos c25] at H
       have LMc3642 := mk_ c25
       clear c25
       obtain ⟨y127, hy127⟩ : ∃ y_ : List (S29), y_ = (x6_1 ++ [(⟨a1_0, a1_1, a1_2, a1_3⟩ : S29)]) := ⟨_, rfl⟩
       replace H : (if ((rd_T29 l0 x8_1).f1) = a1_1 then (if ((rd_T29 l0 x8_1).f0) = a1_0 then (spec_RoutePut.l0 kj7 l0 y127 true (wrap64 (x8_1 + 1)) a1_0 a1_1 a1_2 a1_3) else (if y127.length < 4398046511104 then (spec_RoutePut.l0 kj7 l0 (y127 ++ [(⟨((rd_T29 l0 x8_1).f0), ((rd_T29 l0 x8_1).f1), ((rd_T29 l0 x8_1).f2), ((rd_T29 l0 x8_1).f3)⟩ : S29)]) true (wrap64 (x8_1 + 1)) a1_0 a1_1 a1_2 a1_3) else (none))) else (if y127.length < 4398046511104 then (spec_RoutePut.l0 kj7 l0 (y127 ++ [(⟨((rd_T29 l0 x8_1).f0), ((rd_T29 l0 x8_1).f1), ((rd_T29 l0 x8_1).f2), ((rd_T29 l0 x8_1).f3)⟩ : S29)]) true (wrap64 (x8_1 + 1)) a1_0 a1_1 a1_2 a1_3) else (none))) = some (r1, r2) := by first | (rw [hy127]; with_reducible exact H) | (have H2_ := (Option.bind_some _ _).symm.trans H; rw [hy127]; with_reducible exact H2_) | (have H2_ := (Option.bind_some _ _).symm.trans H; with_reducible exact H2_) | with_reducible exact H | (rw [hy127]; exact H) | exact H
       have Ny3643 := mk_ hy127
       clear hy127
       by_cases c26 : ((rd_T29 l0 x8_1).f1) = a1_1
       rotate_left
       focus
        rw [if_neg c26] at H
        have c26b0 : (((rd_T29 l0 x8_1).f1) == a1_1) = false := beq_eq_false_iff_ne.mpr c26
        have c26b1 : (((rd_T29 l0 x8_1).f1) != a1_1) = true := bne_iff_ne.mpr c26
        by_cases c40 : y127.length < 4398046511104
        rotate_left
        ·rw [if_neg c40] at H
         exact absurd H (by simp)
        rw [if_pos c40] at H
        have LMc3644 := mk_ c40
        clear c40
        obtain ⟨y133, hy133⟩ : ∃ y_ : List (S29), y_ = (y127 ++ [(⟨((rd_T29 l0 x8_1).f0), ((rd_T29 l0 x8_1).f1), ((rd_T29 l0 x8_1).f2), ((rd_T29 l0 x8_1).f3)⟩ : S29)]) := ⟨_, rfl⟩
        replace H : (spec_RoutePut.l0 kj7 l0 y133 true (wrap64 (x8_1 + 1)) a1_0 a1_1 a1_2 a1_3) = some (r1, r2) := by first | (rw [hy133]; with_reducible exact H) | (have H2_ := (Option.bind_some _ _).symm.trans H; rw [hy133]; with_reducible exact H2_) | (have H2_ := (Option.bind_some _ _).symm.trans H; with_reducible exact H2_) | with_reducible exact H | (rw [hy133]; exact H) | exact H
        have Ny3645 := mk_ hy133
        clear hy133
        have H' := mk_ H
        clear H
        have hnb660121126 := NB121_126.out
        have hnc660121126 := NB126_121.out
        obtain ⟨hcz660121_0, hcz660121_1, hcz660121_2, hcz660121_3, hfz660121_0, hfz660121_1, hfz660121_2, hfz660121_3⟩ := cells4_ BK121.out
       rotate_left
       focus
        rw [if_pos c26] at H
        have c26b0 : (((rd_T29 l0 x8_1).f1) == a1_1) = true := beq_iff_eq.mpr c26
        have c26b1 : (((rd_T29 l0 x8_1).f1) != a1_1) = false := bne_eq_false_iff_eq.mpr c26
        clear c26
        by_cases c27 : ((rd_T29 l0 x8_1).f0) = a1_0
        focus
         rw [if_pos c27] at H
         have c27b0 : (((rd_T29 l0 x8_1).f0) == a1_0) = true := beq_iff_eq.mpr c27
         have c27b1 : (((rd_T29 l0 x8_1).f0) != a1_0) = false := bne_eq_false_iff_eq.mpr c27
         clear c27
         have H' := mk_ H
         clear H
         have hnb660121126 := NB121_126.out
         have hnc660121126 := NB126_121.out
         obtain ⟨hcz660121_0, hcz660121_1, hcz660121_2, hcz660121_3, hfz660121_0, hfz660121_1, hfz660121_2, hfz660121_3⟩ := cells4_ BK121.out
        rotate_left
        focus
         rw [if_neg c27] at H
         have c27b0 : (((rd_T29 l0 x8_1).f0) == a1_0) = false := beq_eq_false_iff_ne.mpr c27
         have c27b1 : (((rd_T29 l0 x8_1).f0) != a1_0) = true := bne_iff_ne.mpr c27
         by_cases c33 : y127.length < 4398046511104
         rotate_left
         ·rw [if_neg c33] at H
          exact absurd H (by simp)
         rw [if_pos c33] at H
         have LMc3650 := mk_ c33
         clear c33
         obtain ⟨y130, hy130⟩ : ∃ y_ : List (S29), y_ = (y127 ++ [(⟨((rd_T29 l0 x8_1).f0), ((rd_T29 l0 x8_1).f1), ((rd_T29 l0 x8_1).f2), ((rd_T29 l0 x8_1).f3)⟩ : S29)]) := ⟨_, rfl⟩
         replace H : (spec_RoutePut.l0 kj7 l0 y130 true (wrap64 (x8_1 + 1)) a1_0 a1_1 a1_2 a1_3) = some (r1, r2) := by first | (rw [hy130]; with_reducible exact H) | (have H2_ := (Option.bind_some _ _).symm.trans H; rw [hy130]; with_reducible exact H2_) | (have H2_ := (Option.bind_some _ _).symm.trans H; with_reducible exact H2_) | with_reducible exact H | (rw [hy130]; exact H) | exact H
         have Ny3651 := mk_ hy130
         clear hy130
         have H' := mk_ H
         clear H
         have hnb660121126 := NB121_126.out
         have hnc660121126 := NB126_121.out
         obtain ⟨hcz660121_0, hcz660121_1, hcz660121_2, hcz660121_3, hfz660121_0, hfz660121_1, hfz660121_2, hfz660121_3⟩ := cells4_ BK121.out
        rotate_left
       rotate_left 2
       have z30_ := trivial
       rotate_left
       rotate_left
       have z31_ := trivial
       rotate_left
       all_goals
        go_wp2_with (first | ((with_reducible refine gate_builtin (b := .append) (xs := #[.tmp 44, .tmp 46]) rfl ?_); at_builtin; refine Kd.R_append k29 (w0 := w) w.heap.size rfl (.tmp 44) (.tmp 46) 32 29 (.agg #[(.int .i64 0), (.int .i64 0), (.int .i64 0), (.int .i64 0)]) 32 rfl Try.underlying32 info29 rfl (by decide) (by omega) u6 x6_1 (⟨a1_0, a1_1, a1_2, a1_3⟩ : S29) [.int .i64 a1_0, .int .i64 a1_1, .int .i64 a1_2, .int .i64 a1_3] (fun k_ => k_ ≠ gb121 ∧ k_ ≠ gb3160) (fun _ => False) rfl rfl ?aP (fun _ hk => hk.elim) ?aF ?aO ?aB ?aS ?aL ?_; (case aP => exact k29_mkM _ _ _ (⟨a1_0, a1_1, a1_2, a1_3⟩ : S29)); (case aB => exact (us_ HB.out)); (case aF => exact (fun k_ hk => ⟨Kd.freshB (g := gb121) (o := .cells #[.int .i64 a1_0, .int .i64 a1_1, .int .i64 a1_2, .int .i64 a1_3] 29 (0, 0)) (u_ BK121.out) k_ hk, Kd.freshB (g := gb3160) (o := .cells #[.int .i64 ((rd_T29 l0 x8_1).f0), .int .i64 ((rd_T29 l0 x8_1).f1), .int .i64 ((rd_T29 l0 x8_1).f2), .int .i64 ((rd_T29 l0 x8_1).f3)] 29 (0, 0)) (u_ BK126.out) k_ hk⟩)); (case aO => exact (Kd.ur_ HO_6.out)); (case aS => exact (below_size (us_ HB.out))); (case aL => have := LMc3642.out; omega); intro v4080 w4081 ho hb hg hat; rw [← Ny3643.out] at ho; replace BK121 := mk_ (blk_grown (g := gb121) (o := .cells #[.int .i64 a1_0, .int .i64 a1_1, .int .i64 a1_2, .int .i64 a1_3] 29 (0, 0)) (u_ BK121.out) hg (Kd.R_away HO_6.out (fun _ hk => hk.1))); replace BK126 := mk_ (blk_grown (g := gb3160) (o := .cells #[.int .i64 ((rd_T29 l0 x8_1).f0), .int .i64 ((rd_T29 l0 x8_1).f1), .int .i64 ((rd_T29 l0 x8_1).f2), .int .i64 ((rd_T29 l0 x8_1).f3)] 29 (0, 0)) (u_ BK126.out) hg (Kd.R_away HO_6.out (fun _ hk => hk.2))); replace HB := mk_ (hb); have HO129 := mk_ (ho); clear HO_6; clear ho hb hg hat; obtain ⟨hcz770126_0, hcz770126_1, hcz770126_2, hcz770126_3, hfz770126_0, hfz770126_1, hfz770126_2, hfz770126_3⟩ := cells4_ BK126.out; obtain ⟨hcz660121_0, hcz660121_1, hcz660121_2, hcz660121_3, hfz660121_0, hfz660121_1, hfz660121_2, hfz660121_3⟩ := cells4_ BK121.out) | (have zz_ := z30_; clear zz_; (with_reducible refine gate_builtin (b := .append) (xs := #[.tmp 60, .tmp 62]) rfl ?_); at_builtin; refine Kd.R_append k29 (w0 := w) w.heap.size rfl (.tmp 60) (.tmp 62) 32 29 (.agg #[(.int .i64 0), (.int .i64 0), (.int .i64 0), (.int .i64 0)]) 32 rfl Try.underlying32 info29 rfl (by decide) (by omega) v4080 y127 (⟨((rd_T29 l0 x8_1).f0), ((rd_T29 l0 x8_1).f1), ((rd_T29 l0 x8_1).f2), ((rd_T29 l0 x8_1).f3)⟩ : S29) [.int .i64 ((rd_T29 l0 x8_1).f0), .int .i64 ((rd_T29 l0 x8_1).f1), .int .i64 ((rd_T29 l0 x8_1).f2), .int .i64 ((rd_T29 l0 x8_1).f3)] (fun k_ => k_ ≠ gb121 ∧ k_ ≠ gb3160) (fun _ => False) rfl rfl ?aP (fun _ hk => hk.elim) ?aF ?aO ?aB ?aS ?aL ?_; (case aP => exact k29_mkM _ _ _ (⟨((rd_T29 l0 x8_1).f0), ((rd_T29 l0 x8_1).f1), ((rd_T29 l0 x8_1).f2), ((rd_T29 l0 x8_1).f3)⟩ : S29)); (case aB => exact (us_ HB.out)); (case aF => exact (fun k_ hk => ⟨Kd.freshB (g := gb121) (o := .cells #[.int .i64 a1_0, .int .i64 a1_1, .int .i64 a1_2, .int .i64 a1_3] 29 (0, 0)) (u_ BK121.out) k_ hk, Kd.freshB (g := gb3160) (o := .cells #[.int .i64 ((rd_T29 l0 x8_1).f0), .int .i64 ((rd_T29 l0 x8_1).f1), .int .i64 ((rd_T29 l0 x8_1).f2), .int .i64 ((rd_T29 l0 x8_1).f3)] 29 (0, 0)) (u_ BK126.out) k_ hk⟩)); (case aO => exact (Kd.ur_ HO129.out)); (case aS => exact (below_size (us_ HB.out))); (case aL => have := LMc3644.out; omega); intro v4120 w4121 ho hb hg hat; rw [← Ny3645.out] at ho; replace BK121 := mk_ (blk_grown (g := gb121) (o := .cells #[.int .i64 a1_0, .int .i64 a1_1, .int .i64 a1_2, .int .i64 a1_3] 29 (0, 0)) (u_ BK121.out) hg (Kd.R_away HO129.out (fun _ hk => hk.1))); replace BK126 := mk_ (blk_grown (g := gb3160) (o := .cells #[.int .i64 ((rd_T29 l0 x8_1).f0), .int .i64 ((rd_T29 l0 x8_1).f1), .int .i64 ((rd_T29 l0 x8_1).f2), .int .i64 ((rd_T29 l0 x8_1).f3)] 29 (0, 0)) (u_ BK126.out) hg (Kd.R_away HO129.out (fun _ hk => hk.2))); replace HB := mk_ (hb); have HO135 := mk_ (ho); clear HO129; clear ho hb hg hat) | (have zz_ := z31_; clear zz_; (with_reducible refine gate_builtin (b := .append) (xs := #[.tmp 60, .tmp 62]) rfl ?_); at_builtin; refine Kd.R_append k29 (w0 := w) w.heap.size rfl (.tmp 60) (.tmp 62) 32 29 (.agg #[(.int .i64 0), (.int .i64 0), (.int .i64 0), (.int .i64 0)]) 32 rfl Try.underlying32 info29 rfl (by decide) (by omega) v4080 y127 (⟨((rd_T29 l0 x8_1).f0), ((rd_T29 l0 x8_1).f1), ((rd_T29 l0 x8_1).f2), ((rd_T29 l0 x8_1).f3)⟩ : S29) [.int .i64 ((rd_T29 l0 x8_1).f0), .int .i64 ((rd_T29 l0 x8_1).f1), .int .i64 ((rd_T29 l0 x8_1).f2), .int .i64 ((rd_T29 l0 x8_1).f3)] (fun k_ => k_ ≠ gb121 ∧ k_ ≠ gb3160) (fun _ => False) rfl rfl ?aP (fun _ hk => hk.elim) ?aF ?aO ?aB ?aS ?aL ?_; (case aP => exact k29_mkM _ _ _ (⟨((rd_T29 l0 x8_1).f0), ((rd_T29 l0 x8_1).f1), ((rd_T29 l0 x8_1).f2), ((rd_T29 l0 x8_1).f3)⟩ : S29)); (case aB => exact (us_ HB.out)); (case aF => exact (fun k_ hk => ⟨Kd.freshB (g := gb121) (o := .cells #[.int .i64 a1_0, .int .i64 a1_1, .int .i64 a1_2, .int .i64 a1_3] 29 (0, 0)) (u_ BK121.out) k_ hk, Kd.freshB (g := gb3160) (o := .cells #[.int .i64 ((rd_T29 l0 x8_1).f0), .int .i64 ((rd_T29 l0 x8_1).f1), .int .i64 ((rd_T29 l0 x8_1).f2), .int .i64 ((rd_T29 l0 x8_1).f3)] 29 (0, 0)) (u_ BK126.out) k_ hk⟩)); (case aO => exact (Kd.ur_ HO129.out)); (case aS => exact (below_size (us_ HB.out))); (case aL => have := LMc3650.out; omega); intro v4120 w4121 ho hb hg hat; rw [← Ny3651.out] at ho; replace BK121 := mk_ (blk_grown (g := gb121) (o := .cells #[.int .i64 a1_0, .int .i64 a1_1, .int .i64 a1_2, .int .i64 a1_3] 29 (0, 0)) (u_ BK121.out) hg (Kd.R_away HO129.out (fun _ hk => hk.1))); replace BK126 := mk_ (blk_grown (g := gb3160) (o := .cells #[.int .i64 ((rd_T29 l0 x8_1).f0), .int .i64 ((rd_T29 l0 x8_1).f1), .int .i64 ((rd_T29 l0 x8_1).f2), .int .i64 ((rd_T29 l0 x8_1).f3)] 29 (0, 0)) (u_ BK126.out) hg (Kd.R_away HO129.out (fun _ hk => hk.2))); replace HB := mk_ (hb); have HO132 := mk_ (ho); clear HO129; clear ho hb hg hat))
        go_roundg kj7
        case measure => have := HK1.out; have := HJ3640.out; omega
       ·case rel => exact ⟨(y133), (true), (wrap64 (x8_1 + 1)), (by first | rfl | (simp; done) | (simp [*]; done)), (by first | rfl | (simp; done) | (simp [*]; done)), H', ⟨by have := HK1.out; have := HJ3640.out; omega⟩, ⟨by (with_reducible repeat (first | apply Kd.R_alloc | apply Kd.R_drewN | apply Kd.R_drew)); exact Kd.R_mono HO135.out (fun _ hk => hk.1)⟩, ⟨u_ BK121.out⟩, ⟨us_ HB.out⟩⟩
       ·case rel => exact ⟨(y127), (true), (wrap64 (x8_1 + 1)), (by first | rfl | (simp; done) | (simp [*]; done)), (by first | rfl | (simp; done) | (simp [*]; done)), H', ⟨by have := HK1.out; have := HJ3640.out; omega⟩, ⟨by (with_reducible repeat (first | apply Kd.R_alloc | apply Kd.R_drewN | apply Kd.R_drew)); exact Kd.R_mono HO129.out (fun _ hk => hk.1)⟩, ⟨u_ BK121.out⟩, ⟨us_ HB.out⟩⟩
       ·case rel => exact ⟨(y130), (true), (wrap64 (x8_1 + 1)), (by first | rfl | (simp; done) | (simp [*]; done)), (by first | rfl | (simp; done) | (simp [*]; done)), H', ⟨by have := HK1.out; have := HJ3640.out; omega⟩, ⟨by (with_reducible repeat (first | apply Kd.R_alloc | apply Kd.R_drewN | apply Kd.R_drew)); exact Kd.R_mono HO132.out (fun _ hk => hk.1)⟩, ⟨u_ BK121.out⟩, ⟨us_ HB.out⟩⟩
      replace c3641 := Bool.eq_false_iff.mpr c3641
      subst c3641
      rw [if_neg (show ¬ (false = true) by decide)] at H
      by_cases c47 : ((rd_T29 l0 x8_1).f1) = a1_1
      rotate_left
      ·rw [if_neg c47] at H
       have c47b0 : (((rd_T29 l0 x8_1).f1) == a1_1) = false := beq_eq_false_iff_ne.mpr c47
       have c47b1 : (((rd_T29 l0 x8_1).f1) != a1_1) = true := bne_iff_ne.mpr c47
       by_cases c57 : x6_1.length < 4398046511104
       rotate_left
       ·rw [if_neg c57] at H
        exact absurd H (by simp)
       rw [if_pos c57] at H
       have LMc3655 := mk_ c57
       clear c57
       obtain ⟨y139, hy139⟩ : ∃ y_ : List (S29), y_ = (x6_1 ++ [(⟨((rd_T29 l0 x8_1).f0), ((rd_T29 l0 x8_1).f1), ((rd_T29 l0 x8_1).f2), ((rd_T29 l0 x8_1).f3)⟩ : S29)]) := ⟨_, rfl⟩
       replace H : (spec_RoutePut.l0 kj7 l0 y139 x7_1 (wrap64 (x8_1 + 1)) a1_0 a1_1 a1_2 a1_3) = some (r1, r2) := by first | (rw [hy139]; with_reducible exact H) | (have H2_ := (Option.bind_some _ _).symm.trans H; rw [hy139]; with_reducible exact H2_) | (have H2_ := (Option.bind_some _ _).symm.trans H; with_reducible exact H2_) | with_reducible exact H | (rw [hy139]; exact H) | exact H
       have Ny3656 := mk_ hy139
       clear hy139
       have H' := mk_ H
       clear H
       have hnb660121126 := NB126_121.out
       have hnc660121126 := NB121_126.out
       obtain ⟨hcz660126_0, hcz660126_1, hcz660126_2, hcz660126_3, hfz660126_0, hfz660126_1, hfz660126_2, hfz660126_3⟩ := cells4_ BK126.out
       obtain ⟨hcz660121_0, hcz660121_1, hcz660121_2, hcz660121_3, hfz660121_0, hfz660121_1, hfz660121_2, hfz660121_3⟩ := cells4_ BK121.out
       go_wp2_with (first | ((with_reducible refine gate_builtin (b := .append) (xs := #[.tmp 60, .tmp 62]) rfl ?_); at_builtin; refine Kd.R_append k29 (w0 := w) w.heap.size rfl (.tmp 60) (.tmp 62) 32 29 (.agg #[(.int .i64 0), (.int .i64 0), (.int .i64 0), (.int .i64 0)]) 32 rfl Try.underlying32 info29 rfl (by decide) (by omega) u6 x6_1 (⟨((rd_T29 l0 x8_1).f0), ((rd_T29 l0 x8_1).f1), ((rd_T29 l0 x8_1).f2), ((rd_T29 l0 x8_1).f3)⟩ : S29) [.int .i64 ((rd_T29 l0 x8_1).f0), .int .i64 ((rd_T29 l0 x8_1).f1), .int .i64 ((rd_T29 l0 x8_1).f2), .int .i64 ((rd_T29 l0 x8_1).f3)] (fun k_ => k_ ≠ gb121 ∧ k_ ≠ gb3160) (fun _ => False) rfl rfl ?aP (fun _ hk => hk.elim) ?aF ?aO ?aB ?aS ?aL ?_; (case aP => exact k29_mkM _ _ _ (⟨((rd_T29 l0 x8_1).f0), ((rd_T29 l0 x8_1).f1), ((rd_T29 l0 x8_1).f2), ((rd_T29 l0 x8_1).f3)⟩ : S29)); (case aB => exact (us_ HB.out)); (case aF => exact (fun k_ hk => ⟨Kd.freshB (g := gb121) (o := .cells #[.int .i64 a1_0, .int .i64 a1_1, .int .i64 a1_2, .int .i64 a1_3] 29 (0, 0)) (u_ BK121.out) k_ hk, Kd.freshB (g := gb3160) (o := .cells #[.int .i64 ((rd_T29 l0 x8_1).f0), .int .i64 ((rd_T29 l0 x8_1).f1), .int .i64 ((rd_T29 l0 x8_1).f2), .int .i64 ((rd_T29 l0 x8_1).f3)] 29 (0, 0)) (u_ BK126.out) k_ hk⟩)); (case aO => exact (Kd.ur_ HO_6.out)); (case aS => exact (below_size (us_ HB.out))); (case aL => have := LMc3655.out; omega); intro v3657 w3658 ho hb hg hat; rw [← Ny3656.out] at ho; replace BK121 := mk_ (blk_grown (g := gb121) (o := .cells #[.int .i64 a1_0, .int .i64 a1_1, .int .i64 a1_2, .int .i64 a1_3] 29 (0, 0)) (u_ BK121.out) hg (Kd.R_away HO_6.out (fun _ hk => hk.1))); replace BK126 := mk_ (blk_grown (g := gb3160) (o := .cells #[.int .i64 ((rd_T29 l0 x8_1).f0), .int .i64 ((rd_T29 l0 x8_1).f1), .int .i64 ((rd_T29 l0 x8_1).f2), .int .i64 ((rd_T29 l0 x8_1).f3)] 29 (0, 0)) (u_ BK126.out) hg (Kd.R_away HO_6.out (fun _ hk => hk.2))); replace HB := mk_ (hb); have HO141 := mk_ (ho); clear HO_6; clear ho hb hg hat))
       go_roundg kj7
       case measure => have := HK1.out; have := HJ3640.out; omega
       case rel => exact ⟨(y139), (x7_1), (wrap64 (x8_1 + 1)), (by first | rfl | (simp; done) | (simp [*]; done)), (by first | rfl | (simp; done) | (simp [*]; done)), H', ⟨by have := HK1.out; have := HJ3640.out; omega⟩, ⟨by (with_reducible repeat (first | apply Kd.R_alloc | apply Kd.R_drewN | apply Kd.R_drew)); exact Kd.R_mono HO141.out (fun _ hk => hk.1)⟩, ⟨u_ BK121.out⟩, ⟨us_ HB.out⟩⟩
      rw [if_pos c47] at H
      have c47b0 : (((rd_T29 l0 x8_1).f1) == a1_1) = true := beq_iff_eq.mpr c47
      have c47b1 : (((rd_T29 l0 x8_1).f1) != a1_1) = false := bne_eq_false_iff_eq.mpr c47
      clear c47
      by_cases c48 : ((rd_T29 l0 x8_1).f0) = a1_0
      ·rw [if_pos c48] at H
       have c48b0 : (((rd_T29 l0 x8_1).f0) == a1_0) = true := beq_iff_eq.mpr c48
       have c48b1 : (((rd_T29 l0 x8_1).f0) != a1_0) = false := bne_eq_false_iff_eq.mpr c48
       clear c48
       have H' := mk_ H
       clear H
       have hnb660121126 := NB126_121.out
       have hnc660121126 := NB121_126.out
       obtain ⟨hcz660126_0, hcz660126_1, hcz660126_2, hcz660126_3, hfz660126_0, hfz660126_1, hfz660126_2, hfz660126_3⟩ := cells4_ BK126.out
       obtain ⟨hcz660121_0, hcz660121_1, hcz660121_2, hcz660121_3, hfz660121_0, hfz660121_1, hfz660121_2, hfz660121_3⟩ := cells4_ BK121.out
       go_wp2
       go_roundg kj7
       case measure => have := HK1.out; have := HJ3640.out; omega
       case rel => exact ⟨(x6_1), (x7_1), (wrap64 (x8_1 + 1)), (by first | rfl | (simp; done) | (simp [*]; done)), (by first | rfl | (simp; done) | (simp [*]; done)), H', ⟨by have := HK1.out; have := HJ3640.out; omega⟩, ⟨by (with_reducible repeat (first | apply Kd.R_alloc | apply Kd.R_drewN | apply Kd.R_drew)); exact Kd.R_mono HO_6.out (fun _ hk => hk.1)⟩, ⟨u_ BK121.out⟩, ⟨us_ HB.out⟩⟩
      rw [if_neg c48] at H
      have c48b0 : (((rd_T29 l0 x8_1).f0) == a1_0) = false := beq_eq_false_iff_ne.mpr c48
      have c48b1 : (((rd_T29 l0 x8_1).f0) != a1_0) = true := bne_iff_ne.mpr c48
      by_cases c52 : x6_1.length < 4398046511104
      rotate_left
      ·rw [if_neg c52] at H
       exact absurd H (by simp)
      rw [if_pos c52] at H
      have LMc3659 := mk_ c52
      clear c52
      obtain ⟨y136, hy136⟩ : ∃ y_ : List (S29), y_ = (x6_1 ++ [(⟨((rd_T29 l0 x8_1).f0), ((rd_T29 l0 x8_1).f1), ((rd_T29 l0 x8_1).f2), ((rd_T29 l0 x8_1).f3)⟩ : S29)]) := ⟨_, rfl⟩
      replace H : (spec_RoutePut.l0 kj7 l0 y136 x7_1 (wrap64 (x8_1 + 1)) a1_0 a1_1 a1_2 a1_3) = some (r1, r2) := by first | (rw [hy136]; with_reducible exact H) | (have H2_ := (Option.bind_some _ _).symm.trans H; rw [hy136]; with_reducible exact H2_) | (have H2_ := (Option.bind_some _ _).symm.trans H; with_reducible exact H2_) | with_reducible exact H | (rw [hy136]; exact H) | exact H
      have Ny3660 := mk_ hy136
      clear hy136
      have H' := mk_ H
      clear H
      have hnb660121126 := NB126_121.out
      have hnc660121126 := NB121_126.out
      obtain ⟨hcz660126_0, hcz660126_1, hcz660126_2, hcz660126_3, hfz660126_0, hfz660126_1, hfz660126_2, hfz660126_3⟩ := cells4_ BK126.out
      obtain ⟨hcz660121_0, hcz660121_1, hcz660121_2, hcz660121_3, hfz660121_0, hfz660121_1, hfz660121_2, hfz660121_3⟩ := cells4_ BK121.out
      go_wp2_with (first | ((with_reducible refine gate_builtin (b := .append) (xs := #[.tmp 60, .tmp 62]) rfl ?_); at_builtin; refine Kd.R_append k29 (w0 := w) w.heap.size rfl (.tmp 60) (.tmp 62) 32 29 (.agg #[(.int .i64 0), (.int .i64 0), (.int .i64 0), (.int .i64 0)]) 32 rfl Try.underlying32 info29 rfl (by decide) (by omega) u6 x6_1 (⟨((rd_T29 l0 x8_1).f0), ((rd_T29 l0 x8_1).f1), ((rd_T29 l0 x8_1).f2), ((rd_T29 l0 x8_1).f3)⟩ : S29) [.int .i64 ((rd_T29 l0 x8_1).f0), .int .i64 ((rd_T29 l0 x8_1).f1), .int .i64 ((rd_T29 l0 x8_1).f2), .int .i64 ((rd_T29 l0 x8_1).f3)] (fun k_ => k_ ≠ gb121 ∧ k_ ≠ gb3160) (fun _ => False) rfl rfl ?aP (fun _ hk => hk.elim) ?aF ?aO ?aB ?aS ?aL ?_; (case aP => exact k29_mkM _ _ _ (⟨((rd_T29 l0 x8_1).f0), ((rd_T29 l0 x8_1).f1), ((rd_T29 l0 x8_1).f2), ((rd_T29 l0 x8_1).f3)⟩ : S29)); (case aB => exact (us_ HB.out)); (case aF => exact (fun k_ hk => ⟨Kd.freshB (g := gb121) (o := .cells #[.int .i64 a1_0, .int .i64 a1_1, .int .i64 a1_2, .int .i64 a1_3] 29 (0, 0)) (u_ BK121.out) k_ hk, Kd.freshB (g := gb3160) (o := .cells #[.int .i64 ((rd_T29 l0 x8_1).f0), .int .i64 ((rd_T29 l0 x8_1).f1), .int .i64 ((rd_T29 l0 x8_1).f2), .int .i64 ((rd_T29 l0 x8_1).f3)] 29 (0, 0)) (u_ BK126.out) k_ hk⟩)); (case aO => exact (Kd.ur_ HO_6.out)); (case aS => exact (below_size (us_ HB.out))); (case aL => have := LMc3659.out; omega); intro v3661 w3662 ho hb hg hat; rw [← Ny3660.out] at ho; replace BK121 := mk_ (blk_grown (g := gb121) (o := .cells #[.int .i64 a1_0, .int .i64 a1_1, .int .i64 a1_2, .int .i64 a1_3] 29 (0, 0)) (u_ BK121.out) hg (Kd.R_away HO_6.out (fun _ hk => hk.1))); replace BK126 := mk_ (blk_grown (g := gb3160) (o := .cells #[.int .i64 ((rd_T29 l0 x8_1).f0), .int .i64 ((rd_T29 l0 x8_1).f1), .int .i64 ((rd_T29 l0 x8_1).f2), .int .i64 ((rd_T29 l0 x8_1).f3)] 29 (0, 0)) (u_ BK126.out) hg (Kd.R_away HO_6.out (fun _ hk => hk.2))); replace HB := mk_ (hb); have HO138 := mk_ (ho); clear HO_6; clear ho hb hg hat))
      go_roundg kj7
      case measure => have := HK1.out; have := HJ3640.out; omega
      case rel => exact ⟨(y136), (x7_1), (wrap64 (x8_1 + 1)), (by first | rfl | (simp; done) | (simp [*]; done)), (by first | rfl | (simp; done) | (simp [*]; done)), H', ⟨by have := HK1.out; have := HJ3640.out; omega⟩, ⟨by (with_reducible repeat (first | apply Kd.R_alloc | apply Kd.R_drewN | apply Kd.R_drew)); exact Kd.R_mono HO138.out (fun _ hk => hk.1)⟩, ⟨u_ BK121.out⟩, ⟨us_ HB.out⟩⟩

end Go.Proofs.Ytkkibccnpkbbjab.MFnPathRoom
