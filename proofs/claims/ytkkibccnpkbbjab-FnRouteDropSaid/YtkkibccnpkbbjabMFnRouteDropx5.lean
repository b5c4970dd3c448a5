/- Functions that the law FnRouteDrop reaches, each with the proof that the machine's call comes to just its answer; no conditions but those that each theorem states. Printed by a program of this session over the kit's print. -/
import Derived.Test.YtkkibccnpkbbjabMFnRouteDropx0
import Derived.Test.YtkkibccnpkbbjabMFnRouteDropx4
namespace Go.Proofs.Ytkkibccnpkbbjab.MFnRouteDrop
open Go.RowKit Go.Proofs.YtkkibccnpkbbjabV.PrintWords Go.Proofs.YtkkibccnpkbbjabV.PrintLast Go.Proofs.YtkkibccnpkbbjabV.PrintMore
attribute [local go_sem] max2_int min2_int max_two min_two max_three min_three max_four min_four   -- for this text's walks alone
set_option linter.unusedVariables false
set_option linter.unusedSimpArgs false

/-! ### spec_RoutePut: function 89 -/
mutual
def spec_RoutePut.l0 : Nat → List (S29) → List (S29) → Bool → Int → Int → Int → Int → Int → Option ((List (S29)) × Bool)
 | 0, _, _, _, _, _, _, _, _ => none
 | k + 1, x0, x6, x7, x8, x169000, x169001, x169002, x169003 => if x8 < (x0.length : Int) then (if 0 ≤ x8 then (if x7 = true then (spec_RoutePut.j1 k x0 x6 x7 x8 false x169000 x169001 x169002 x169003 ((rd_T29 x0 x8).f0) ((rd_T29 x0 x8).f1) ((rd_T29 x0 x8).f2) ((rd_T29 x0 x8).f3)) else (if x169001 < ((rd_T29 x0 x8).f1) then (spec_RoutePut.j1 k x0 x6 x7 x8 true x169000 x169001 x169002 x169003 ((rd_T29 x0 x8).f0) ((rd_T29 x0 x8).f1) ((rd_T29 x0 x8).f2) ((rd_T29 x0 x8).f3)) else (if x169001 = ((rd_T29 x0 x8).f1) then (spec_RoutePut.j1 k x0 x6 x7 x8 (decide (x169000 ≤ ((rd_T29 x0 x8).f0))) x169000 x169001 x169002 x169003 ((rd_T29 x0 x8).f0) ((rd_T29 x0 x8).f1) ((rd_T29 x0 x8).f2) ((rd_T29 x0 x8).f3)) else (spec_RoutePut.j1 k x0 x6 x7 x8 false x169000 x169001 x169002 x169003 ((rd_T29 x0 x8).f0) ((rd_T29 x0 x8).f1) ((rd_T29 x0 x8).f2) ((rd_T29 x0 x8).f3))))) else (none)) else (if x7 = true then (spec_RoutePut.j2 k x0 x6 x169000 x169001 x169002 x169003) else (if x6.length < 4398046511104 then (spec_RoutePut.j2 k x0 (x6 ++ [(⟨x169000, x169001, x169002, x169003⟩ : S29)]) x169000 x169001 x169002 x169003) else (none)))
def spec_RoutePut.j1 : Nat → List (S29) → List (S29) → Bool → Int → Bool → Int → Int → Int → Int → Int → Int → Int → Int → Option ((List (S29)) × Bool)
 | 0, _, _, _, _, _, _, _, _, _, _, _, _, _ => none
 | k + 1, x0, x6, x7, x8, x43, x169000, x169001, x169002, x169003, x174000, x174001, x174002, x174003 => if x43 = true then (if x6.length < 4398046511104 then ((some (x6 ++ [(⟨x169000, x169001, x169002, x169003⟩ : S29)] : List (S29))).bind fun y174 => (if x174001 = x169001 then (if x174000 = x169000 then (spec_RoutePut.l0 k x0 y174 true (wrap64 (x8 + 1)) x169000 x169001 x169002 x169003) else (if y174.length < 4398046511104 then (spec_RoutePut.l0 k x0 (y174 ++ [(⟨x174000, x174001, x174002, x174003⟩ : S29)]) true (wrap64 (x8 + 1)) x169000 x169001 x169002 x169003) else (none))) else (if y174.length < 4398046511104 then (spec_RoutePut.l0 k x0 (y174 ++ [(⟨x174000, x174001, x174002, x174003⟩ : S29)]) true (wrap64 (x8 + 1)) x169000 x169001 x169002 x169003) else (none)))) else (none)) else (if x174001 = x169001 then (if x174000 = x169000 then (spec_RoutePut.l0 k x0 x6 x7 (wrap64 (x8 + 1)) x169000 x169001 x169002 x169003) else (if x6.length < 4398046511104 then (spec_RoutePut.l0 k x0 (x6 ++ [(⟨x174000, x174001, x174002, x174003⟩ : S29)]) x7 (wrap64 (x8 + 1)) x169000 x169001 x169002 x169003) else (none))) else (if x6.length < 4398046511104 then (spec_RoutePut.l0 k x0 (x6 ++ [(⟨x174000, x174001, x174002, x174003⟩ : S29)]) x7 (wrap64 (x8 + 1)) x169000 x169001 x169002 x169003) else (none)))
def spec_RoutePut.j2 : Nat → List (S29) → List (S29) → Int → Int → Int → Int → Option ((List (S29)) × Bool)
 | 0, _, _, _, _, _, _ => none
 | k + 1, x0, x6, x169000, x169001, x169002, x169003 => (spec_RoutesOk.f k x0).bind fun t192 => (if t192 = true then ((spec_RouteOk.f x169000 x169001 x169002 x169003).bind fun t193 => (if t193 = true then (if (x6.length : Int) > 8 then (some ((([] : List (S29))), false)) else (some (x6, true))) else (some ((([] : List (S29))), false)))) else (some ((([] : List (S29))), false)))
end
def spec_RoutePut.f (k : Nat) (l0 : List (S29)) (a1_0 : Int) (a1_1 : Int) (a1_2 : Int) (a1_3 : Int) : Option ((List (S29)) × Bool) := spec_RoutePut.l0 k l0 (([] : List (S29))) false 0 a1_0 a1_1 a1_2 a1_3
theorem spec_RoutePut.mono_l : ∀ k, (∀ y0 y1 y2 y3 y4 y5 y6 y7, LeO (spec_RoutePut.l0 k y0 y1 y2 y3 y4 y5 y6 y7) (spec_RoutePut.l0 (k + 1) y0 y1 y2 y3 y4 y5 y6 y7)) ∧ (∀ y0 y1 y2 y3 y4 y5 y6 y7 y8 y9 y10 y11 y12, LeO (spec_RoutePut.j1 k y0 y1 y2 y3 y4 y5 y6 y7 y8 y9 y10 y11 y12) (spec_RoutePut.j1 (k + 1) y0 y1 y2 y3 y4 y5 y6 y7 y8 y9 y10 y11 y12)) ∧ (∀ y0 y1 y2 y3 y4 y5, LeO (spec_RoutePut.j2 k y0 y1 y2 y3 y4 y5) (spec_RoutePut.j2 (k + 1) y0 y1 y2 y3 y4 y5))
 | 0 => ⟨fun _ _ _ _ _ _ _ _ r h => by simp [spec_RoutePut.l0] at h, fun _ _ _ _ _ _ _ _ _ _ _ _ _ r h => by simp [spec_RoutePut.j1] at h, fun _ _ _ _ _ _ r h => by simp [spec_RoutePut.j2] at h⟩
 | k + 1 => by
  obtain ⟨ih0, ih1, ih2⟩ := spec_RoutePut.mono_l k
  refine ⟨?_, ?_, ?_⟩
  ·intro y0 y1 y2 y3 y4 y5 y6 y7
   unfold spec_RoutePut.l0
   repeat' first
   | (with_reducible exact ih0 _ _ _ _ _ _ _ _)
   | (with_reducible exact ih1 _ _ _ _ _ _ _ _ _ _ _ _ _)
   | (with_reducible exact ih2 _ _ _ _ _ _)
   | (with_reducible exact spec_RoutesOk.mono _ _)
   | (with_reducible exact LeO.refl _)
   | (with_reducible exact LeO.none _)
   | (with_reducible refine LeO.ite ?_ ?_)
   | (with_reducible refine LeO.bind ?_ (fun _ => ?_))
   | exact ih0 _ _ _ _ _ _ _ _
   | exact ih1 _ _ _ _ _ _ _ _ _ _ _ _ _
   | exact ih2 _ _ _ _ _ _
   | exact spec_RoutesOk.mono _ _
   | exact LeO.none _
   | refine LeO.ite ?_ ?_
   | refine LeO.bind ?_ (fun _ => ?_)
  ·intro y0 y1 y2 y3 y4 y5 y6 y7 y8 y9 y10 y11 y12
   unfold spec_RoutePut.j1
   repeat' first
   | (with_reducible exact ih0 _ _ _ _ _ _ _ _)
   | (with_reducible exact ih1 _ _ _ _ _ _ _ _ _ _ _ _ _)
   | (with_reducible exact ih2 _ _ _ _ _ _)
   | (with_reducible exact spec_RoutesOk.mono _ _)
   | (with_reducible exact LeO.refl _)
   | (with_reducible exact LeO.none _)
   | (with_reducible refine LeO.ite ?_ ?_)
   | (with_reducible refine LeO.bind ?_ (fun _ => ?_))
   | exact ih0 _ _ _ _ _ _ _ _
   | exact ih1 _ _ _ _ _ _ _ _ _ _ _ _ _
   | exact ih2 _ _ _ _ _ _
   | exact spec_RoutesOk.mono _ _
   | exact LeO.none _
   | refine LeO.ite ?_ ?_
   | refine LeO.bind ?_ (fun _ => ?_)
  ·intro y0 y1 y2 y3 y4 y5
   unfold spec_RoutePut.j2
   repeat' first
   | (with_reducible exact ih0 _ _ _ _ _ _ _ _)
   | (with_reducible exact ih1 _ _ _ _ _ _ _ _ _ _ _ _ _)
   | (with_reducible exact ih2 _ _ _ _ _ _)
   | (with_reducible exact spec_RoutesOk.mono _ _)
   | (with_reducible exact LeO.refl _)
   | (with_reducible exact LeO.none _)
   | (with_reducible refine LeO.ite ?_ ?_)
   | (with_reducible refine LeO.bind ?_ (fun _ => ?_))
   | exact ih0 _ _ _ _ _ _ _ _
   | exact ih1 _ _ _ _ _ _ _ _ _ _ _ _ _
   | exact ih2 _ _ _ _ _ _
   | exact spec_RoutesOk.mono _ _
   | exact LeO.none _
   | refine LeO.ite ?_ ?_
   | refine LeO.bind ?_ (fun _ => ?_)
theorem spec_RoutePut.mono : ∀ a0 a1 a2 a3 a4 k, LeO (spec_RoutePut.f k a0 a1 a2 a3 a4) (spec_RoutePut.f (k + 1) a0 a1 a2 a3 a4) := by
 intro a0 a1 a2 a3 a4 k
 obtain ⟨ih0, ih1, ih2⟩ := spec_RoutePut.mono_l k
 unfold spec_RoutePut.f
 repeat' first
   | (with_reducible exact ih0 _ _ _ _ _ _ _ _)
   | (with_reducible exact ih1 _ _ _ _ _ _ _ _ _ _ _ _ _)
   | (with_reducible exact ih2 _ _ _ _ _ _)
   | (with_reducible exact spec_RoutesOk.mono _ _)
   | (with_reducible exact LeO.refl _)
   | (with_reducible exact LeO.none _)
   | (with_reducible refine LeO.ite ?_ ?_)
   | (with_reducible refine LeO.bind ?_ (fun _ => ?_))
   | exact ih0 _ _ _ _ _ _ _ _
   | exact ih1 _ _ _ _ _ _ _ _ _ _ _ _ _
   | exact ih2 _ _ _ _ _ _
   | exact spec_RoutesOk.mono _ _
   | exact LeO.none _
   | refine LeO.ite ?_ ?_
   | refine LeO.bind ?_ (fun _ => ?_)
set_option maxHeartbeats 8000000 in
set_option maxRecDepth 100000 in
theorem spec_RoutePut.calls (k : Nat) (A0 : Option Addr) (c0 : Nat) (l0 : List (S29)) (a1_0 : Int) (a1_1 : Int) (a1_2 : Int) (a1_3 : Int) (r1 : List (S29)) (r2 : Bool) (w : World) (hr0 : Kd.C k29 w A0 l0.length l0) (hc0 : l0.length ≤ c0) (h : spec_RoutePut.f k l0 a1_0 a1_1 a1_2 a1_3 = some (r1, r2)) :
  Calls Try.prog 89 #[.slice A0 l0.length c0, .agg #[.int .i64 a1_0, .int .i64 a1_1, .int .i64 a1_2, .int .i64 a1_3]] w fun e w' => ∃ v0_ : Value, e = .returned (.tuple #[v0_, .bool r2]) ∧ Kd.R k29 29 w' w.heap.size (fun _ => True) v0_ r1 ∧ Below w.heap.size w w' := by
 have hu29 := Try.underlying29
 have HR0 := mk_ hr0
 have HC0 := mk_ hc0
 clear hr0 hc0
 have HB := mk_ (Below.refl w.heap.size w)
 have H : (spec_RoutePut.l0 k l0 (([] : List (S29))) false 0 a1_0 a1_1 a1_2 a1_3) = some (r1, r2) := h
 clear h
 obtain ⟨y169, hy169⟩ : ∃ y_ : List (S29), y_ = (([] : List (S29))) := ⟨_, rfl⟩
 replace H : (spec_RoutePut.l0 k l0 y169 false 0 a1_0 a1_1 a1_2 a1_3) = some (r1, r2) := by first | (rw [hy169]; with_reducible exact H) | (have H2_ := (Option.bind_some _ _).symm.trans H; rw [hy169]; with_reducible exact H2_) | (have H2_ := (Option.bind_some _ _).symm.trans H; with_reducible exact H2_) | with_reducible exact H | (rw [hy169]; exact H) | exact H
 have Ny169 := mk_ hy169
 clear hy169
 have H' := mk_ H
 clear H
 go_enter Try.func89, Try.ntmps89
 go_wp2_with (first | ((with_reducible refine gate_dst (N := 3) rfl ?_); refine box_event ?hg (N := 3) ?hd (cs := #[.int .i64 a1_0, .int .i64 a1_1, .int .i64 a1_2, .int .i64 a1_3]) (t := 29) ?hr ?_; (case hd => rfl); (case hg => rfl); (case hr => first | (go_simp; done) | (go_simp; rfl)); intro gb168 hg w3 hbox hb; have n0_ := mk_ (below_step (ub_ HB.out) hb); have BK168 := mk_ (hbox); have GW168 := mk_ ((by rw [hg]; exact (below_size (ub_ HB.out)) : w.heap.size ≤ gb168)); have GE168 := ge_ ((by rw [hg]; exact (below_size (ub_ HB.out)) : w.heap.size ≤ gb168)); replace HB := n0_; clear n0_; clear hb hbox hg) | ((with_reducible refine gate_dst (N := 10) rfl ?_); refine Kd.R_lit k29 _ 29 ?hg (N := 10) ?hd (xs := ([] : List (S29))) (inner := []) (ok := fun _ => True) (okp := fun _ => True) ?hr ?hp (fun _ hk => hk) trivial (Below.refl _ _) (Nat.le_refl _) (by simp) ?_; (case hd => rfl); (case hg => rfl); (case hr => first | (go_simp; done) | (go_simp; rfl)); (case hp => exact (Reps.none _ _)); intro v170 w4 ho5 hb hg_ hnew_; clear hg_ hnew_; (first | rw [← Ny169.out] at ho5 | (simp only [Int.reduceToNat] at ho5; rw [← Ny169.out] at ho5)); have HO171 := mk_ (Kd.R_lower (Kd.R_newB ho5 (g := gb168) (o := .cells #[.int .i64 a1_0, .int .i64 a1_1, .int .i64 a1_2, .int .i64 a1_3] 29 (0, 0)) (u_ BK168.out)) (below_size (us_ HB.out))); replace BK168 := mk_ (blk_below (u_ BK168.out) hb); replace HB := mk_ (below_step (us_ HB.out) hb); clear hb ho5))
 go_loopg [6, 7, 8] k (fun kq v6 v7 v8 w' => ∃ (x6_1 : List (S29)) (x7_1 : Bool) (x8_1 : Int), v7 = .bool x7_1 ∧ v8 = .int .i64 x8_1 ∧ Aside0 (spec_RoutePut.l0 kq l0 x6_1 x7_1 x8_1 a1_0 a1_1 a1_2 a1_3 = some (r1, r2)) ∧ Aside0 (kq ≤ k) ∧ Aside0 (Kd.R k29 29 w' w.heap.size (fun k_ => k_ ≠ gb168) v6 x6_1) ∧ Aside0 (w'.heap[gb168]? = some (.cells #[.int .i64 a1_0, .int .i64 a1_1, .int .i64 a1_2, .int .i64 a1_3] 29 (0, 0))) ∧ Aside0 (Below w.heap.size w w'))
 case atStart => exact ⟨(y169), (false), (0), (by first | rfl | (simp; done) | (simp [*]; done)), (by first | rfl | (simp; done) | (simp [*]; done)), H', ⟨Nat.le_refl _⟩, ⟨by (with_reducible repeat (first | apply Kd.R_alloc | apply Kd.R_drewN | apply Kd.R_drew)); exact Kd.R_mono HO171.out (fun _ hk => hk.2)⟩, ⟨u_ BK168.out⟩, ⟨us_ HB.out⟩⟩
 case round =>
  clear H'
  try clear p2
  obtain ⟨x6_1, x7_1, x8_1, rfl, rfl, HA, HK1, HO_6, BK168, HB⟩ := hrel
  cases gk with
  | zero => exact absurd HA.out (by simp [spec_RoutePut.l0])
  | succ k1 =>
   have H := HA.out
   clear HA
   simp only [spec_RoutePut.l0] at H
   by_cases c6 : x8_1 < (l0.length : Int)
   rotate_left
   focus
    rw [if_neg c6] at H
    have c6b0 : decide (x8_1 < (l0.length : Int)) = false := decide_eq_false c6
    clear c6
    have HC62 := mk_ H
    clear H
   rotate_left
   focus
    rw [if_pos c6] at H
    have c6b0 : decide (x8_1 < (l0.length : Int)) = true := decide_eq_true c6
    clear c6
    by_cases c7 : 0 ≤ x8_1
    rotate_left
    ·rw [if_neg c7] at H
     exact absurd H (by simp)
    rw [if_pos c7] at H
    have c7b0 : decide (0 ≤ x8_1) = true := decide_eq_true c7
    clear c7
    have HC8 := mk_ H
    clear H
    have p172 : 0 ≤ (x8_1 : Int) := of_decide_eq_true (by first | (with_reducible assumption) | assumption)
    have q172 : x8_1 < (l0.length : Int) := of_decide_eq_true (by first | (with_reducible assumption) | assumption)
    obtain ⟨ad172, e172, hx172_0, hx172_1, hx172_2, hx172_3⟩ := at_T29 HR0.out x8_1 p172 q172
    cases e172
    replace hx172_0 := (HB.out.cell (lc_ w _ hx172_0)).trans hx172_0
    replace hx172_1 := (HB.out.cell (lc_ w _ hx172_1)).trans hx172_1
    replace hx172_2 := (HB.out.cell (lc_ w _ hx172_2)).trans hx172_2
    replace hx172_3 := (HB.out.cell (lc_ w _ hx172_3)).trans hx172_3
    replace p172 := eq_true p172
    replace q172 := eq_true q172
   rotate_left
   ·go_upto_if 65 with (fail)
    go_cut [6] (fun v6 wc => ∃ (kq : Nat) (x6_61 : List (S29)), Aside0 (spec_RoutePut.j2 kq l0 x6_61 a1_0 a1_1 a1_2 a1_3 = some (r1, r2)) ∧ Aside0 (kq ≤ k1) ∧ Aside0 (Kd.R k29 29 wc w.heap.size (fun k_ => k_ ≠ gb168) v6 x6_61) ∧ Aside0 (wc.heap[gb168]? = some (.cells #[.int .i64 a1_0, .int .i64 a1_1, .int .i64 a1_2, .int .i64 a1_3] 29 (0, 0))) ∧ Aside0 (Below w.heap.size w wc))
    case first =>
     have H := HC62.out
     clear HC62
     by_cases c8800 : x7_1 = true
     ·subst c8800
      rw [if_pos rfl] at H
      have H' := mk_ H
      clear H
      go_wp2
      go_meet
      case rel => exact ⟨_, (x6_1), H', ⟨by have := HK1.out; first | omega | exact Nat.le_refl _⟩, ⟨Kd.ur_ HO_6.out⟩, ⟨u_ BK168.out⟩, ⟨us_ HB.out⟩⟩
     replace c8800 := Bool.eq_false_iff.mpr c8800
     subst c8800
     rw [if_neg (show ¬ (false = true) by decide)] at H
     by_cases c64 : x6_1.length < 4398046511104
     rotate_left
     ·rw [if_neg c64] at H
      exact absurd H (by simp)
     rw [if_pos c64] at H
     have LMc8801 := mk_ c64
     clear c64
     obtain ⟨y189, hy189⟩ : ∃ y_ : List (S29), y_ = (x6_1 ++ [(⟨a1_0, a1_1, a1_2, a1_3⟩ : S29)]) := ⟨_, rfl⟩
     replace H : (spec_RoutePut.j2 k1 l0 y189 a1_0 a1_1 a1_2 a1_3) = some (r1, r2) := by first | (rw [hy189]; with_reducible exact H) | (have H2_ := (Option.bind_some _ _).symm.trans H; rw [hy189]; with_reducible exact H2_) | (have H2_ := (Option.bind_some _ _).symm.trans H; with_reducible exact H2_) | with_reducible exact H | (rw [hy189]; exact H) | exact H
     have Ny8802 := mk_ hy189
     clear hy189
     have H' := mk_ H
     clear H
     obtain ⟨hcz1950168_0, hcz1950168_1, hcz1950168_2, hcz1950168_3, hfz1950168_0, hfz1950168_1, hfz1950168_2, hfz1950168_3⟩ := cells4_ BK168.out
     go_wp2_with (first | ((with_reducible refine gate_builtin (b := .append) (xs := #[.tmp 66, .tmp 68]) rfl ?_); at_builtin; refine Kd.R_append k29 (w0 := w) w.heap.size rfl (.tmp 66) (.tmp 68) 32 29 (.agg #[(.int .i64 0), (.int .i64 0), (.int .i64 0), (.int .i64 0)]) 32 rfl Try.underlying32 info29 rfl (by decide) (by omega) u6 x6_1 (⟨a1_0, a1_1, a1_2, a1_3⟩ : S29) [.int .i64 a1_0, .int .i64 a1_1, .int .i64 a1_2, .int .i64 a1_3] (fun k_ => k_ ≠ gb168) (fun _ => False) rfl rfl ?aP (fun _ hk => hk.elim) ?aF ?aO ?aB ?aS ?aL ?_; (case aP => exact k29_mkM _ _ _ (⟨a1_0, a1_1, a1_2, a1_3⟩ : S29)); (case aB => exact (us_ HB.out)); (case aF => exact (fun k_ hk => Kd.freshB (g := gb168) (o := .cells #[.int .i64 a1_0, .int .i64 a1_1, .int .i64 a1_2, .int .i64 a1_3] 29 (0, 0)) (u_ BK168.out) k_ hk)); (case aO => exact (Kd.ur_ HO_6.out)); (case aS => exact (below_size (us_ HB.out))); (case aL => have := LMc8801.out; omega); intro v8803 w8804 ho hb hg hat; rw [← Ny8802.out] at ho; replace BK168 := mk_ (blk_grown (g := gb168) (o := .cells #[.int .i64 a1_0, .int .i64 a1_1, .int .i64 a1_2, .int .i64 a1_3] 29 (0, 0)) (u_ BK168.out) hg (Kd.R_away HO_6.out (fun _ hk => hk))); replace HB := mk_ (hb); have HO191 := mk_ (ho); clear HO_6; clear ho hb hg hat))
     go_meet
     case rel => exact ⟨_, (y189), H', ⟨by have := HK1.out; first | omega | exact Nat.le_refl _⟩, ⟨Kd.ur_ HO191.out⟩, ⟨u_ BK168.out⟩, ⟨us_ HB.out⟩⟩
    case rest =>
     clear HC62
     try clear c1
     try clear p1
     try clear q1
     try clear hx1
     try clear c2
     try clear p2
     try clear c3
     try clear c4
     try clear c5
     try clear c6
     try clear c6b0
     try clear p6
     try clear c7
     try clear c7b0
     try clear c8
     try clear c10
     try clear c12
     try clear c13
     try clear c13b0
     try clear c14
     try clear c17
     try clear c17b0
     try clear c17b1
     try clear p17
     try clear q17
     try clear hx17
     try clear c18
     try clear c21
     try clear c24
     try clear c25
     try clear c26
     try clear c26b0
     try clear c26b1
     try clear c27
     try clear c27b0
     try clear c27b1
     try clear c28
     try clear c33
     try clear c34
     try clear c40
     try clear c41
     try clear c47
     try clear c47b0
     try clear c47b1
     try clear c48
     try clear c48b0
     try clear c48b1
     try clear c49
     try clear c52
     try clear c53
     try clear c57
     try clear c58
     try clear c8800
     try clear c64
     try clear p64
     try clear hcz11_0
     try clear hcz11_1
     try clear hcz11_2
     try clear hcz11_3
     try clear hcz15_0
     try clear hcz15_1
     try clear hcz15_2
     try clear hcz15_3
     try clear hcz16_0
     try clear hcz16_1
     try clear hcz16_2
     try clear hcz16_3
     try clear hcz19_0
     try clear hcz19_1
     try clear hcz19_2
     try clear hcz19_3
     try clear hcz20_0
     try clear hcz20_1
     try clear hcz20_2
     try clear hcz20_3
     try clear hcz22_0
     try clear hcz22_1
     try clear hcz22_2
     try clear hcz22_3
     try clear hcz23_0
     try clear hcz23_1
     try clear hcz23_2
     try clear hcz23_3
     try clear hcz29_0
     try clear hcz29_1
     try clear hcz29_2
     try clear hcz29_3
     try clear hcz31_0
     try clear hcz31_1
     try clear hcz31_2
     try clear hcz31_3
     try clear hcz32_0
     try clear hcz32_1
     try clear hcz32_2
     try clear hcz32_3
     try clear hcz35_0
     try clear hcz35_1
     try clear hcz35_2
     try clear hcz35_3
     try clear hcz37_0
     try clear hcz37_1
     try clear hcz37_2
     try clear hcz37_3
     try clear hcz38_0
     try clear hcz38_1
     try clear hcz38_2
     try clear hcz38_3
     try clear hcz42_0
     try clear hcz42_1
     try clear hcz42_2
     try clear hcz42_3
     try clear hcz44_0
     try clear hcz44_1
     try clear hcz44_2
     try clear hcz44_3
     try clear hcz45_0
     try clear hcz45_1
     try clear hcz45_2
     try clear hcz45_3
     try clear hcz50_0
     try clear hcz50_1
     try clear hcz50_2
     try clear hcz50_3
     try clear hcz51_0
     try clear hcz51_1
     try clear hcz51_2
     try clear hcz51_3
     try clear hcz54_0
     try clear hcz54_1
     try clear hcz54_2
     try clear hcz54_3
     try clear hcz55_0
     try clear hcz55_1
     try clear hcz55_2
     try clear hcz55_3
     try clear hcz59_0
     try clear hcz59_1
     try clear hcz59_2
     try clear hcz59_3
     try clear hcz60_0
     try clear hcz60_1
     try clear hcz60_2
     try clear hcz60_3
     try clear hcz1950168_0
     try clear hcz1950168_1
     try clear hcz1950168_2
     try clear hcz1950168_3
     try clear hfz11_0
     try clear hfz11_1
     try clear hfz11_2
     try clear hfz11_3
     try clear hfz15_0
     try clear hfz15_1
     try clear hfz15_2
     try clear hfz15_3
     try clear hfz16_0
     try clear hfz16_1
     try clear hfz16_2
     try clear hfz16_3
     try clear hfz19_0
     try clear hfz19_1
     try clear hfz19_2
     try clear hfz19_3
     try clear hfz20_0
     try clear hfz20_1
     try clear hfz20_2
     try clear hfz20_3
     try clear hfz22_0
     try clear hfz22_1
     try clear hfz22_2
     try clear hfz22_3
     try clear hfz23_0
     try clear hfz23_1
     try clear hfz23_2
     try clear hfz23_3
     try clear hfz29_0
     try clear hfz29_1
     try clear hfz29_2
     try clear hfz29_3
     try clear hfz31_0
     try clear hfz31_1
     try clear hfz31_2
     try clear hfz31_3
     try clear hfz32_0
     try clear hfz32_1
     try clear hfz32_2
     try clear hfz32_3
     try clear hfz35_0
     try clear hfz35_1
     try clear hfz35_2
     try clear hfz35_3
     try clear hfz37_0
     try clear hfz37_1
     try clear hfz37_2
     try clear hfz37_3
     try clear hfz38_0
     try clear hfz38_1
     try clear hfz38_2
     try clear hfz38_3
     try clear hfz42_0
     try clear hfz42_1
     try clear hfz42_2
     try clear hfz42_3
     try clear hfz44_0
     try clear hfz44_1
     try clear hfz44_2
     try clear hfz44_3
     try clear hfz45_0
     try clear hfz45_1
     try clear hfz45_2
     try clear hfz45_3
     try clear hfz50_0
     try clear hfz50_1
     try clear hfz50_2
     try clear hfz50_3
     try clear hfz51_0
     try clear hfz51_1
     try clear hfz51_2
     try clear hfz51_3
     try clear hfz54_0
     try clear hfz54_1
     try clear hfz54_2
     try clear hfz54_3
     try clear hfz55_0
     try clear hfz55_1
     try clear hfz55_2
     try clear hfz55_3
     try clear hfz59_0
     try clear hfz59_1
     try clear hfz59_2
     try clear hfz59_3
     try clear hfz60_0
     try clear hfz60_1
     try clear hfz60_2
     try clear hfz60_3
     try clear hfz1950168_0
     try clear hfz1950168_1
     try clear hfz1950168_2
     try clear hfz1950168_3
     try clear hx172_0
     try clear hx172_1
     try clear hx172_2
     try clear hx172_3
     try clear p1
     try clear p17
     try clear p172
     try clear p2
     try clear q1
     try clear q17
     try clear q172
     obtain ⟨kq, x6_61, HA, HJ8840, HO_6, BK168, HB⟩ := hcut
     cases kq with
     | zero => exact absurd HA.out (by simp [spec_RoutePut.j2])
     | succ kj61 =>
      have H := HA.out
      clear HA
      simp only [spec_RoutePut.j2] at H
      replace H := Option.bind_eq_some_iff.mp H
      obtain ⟨t8841, A8842, H⟩ := H
      (try dsimp only at H)
      have A8843 := mk_ A8842
      clear A8842
      by_cases c8844 : t8841 = true
      rotate_left
      focus
       replace c8844 := Bool.eq_false_iff.mpr c8844
       subst c8844
       have H8845 : (some ((([] : List (S29))), false)) = some (r1, r2) := by rw [if_neg (show ¬ (false = true) by decide)] at H; exact H
       clear H
       have H := H8845
       clear H8845
       obtain ⟨y200, hy200⟩ : ∃ y_ : List (S29), y_ = (([] : List (S29))) := ⟨_, rfl⟩
       replace H : (some (y200, false)) = some (r1, r2) := by first | (rw [hy200]; with_reducible exact H) | (have H2_ := (Option.bind_some _ _).symm.trans H; rw [hy200]; with_reducible exact H2_) | (have H2_ := (Option.bind_some _ _).symm.trans H; with_reducible exact H2_) | with_reducible exact H | (rw [hy200]; exact H) | exact H
       have Ny8846 := mk_ hy200
       clear hy200
       simp only [Option.some.injEq, Prod.mk.injEq] at H
       obtain ⟨rfl, rfl⟩ := H
      rotate_left
      focus
       subst c8844
       rw [if_pos rfl] at H
       replace H := Option.bind_eq_some_iff.mp H
       obtain ⟨t8851, A8852, H⟩ := H
       (try dsimp only at H)
       have A8853 := mk_ A8852
       clear A8852
       by_cases c8854 : t8851 = true
       rotate_left
       focus
        replace c8854 := Bool.eq_false_iff.mpr c8854
        subst c8854
        have H8845 : (some ((([] : List (S29))), false)) = some (r1, r2) := by rw [if_neg (show ¬ (false = true) by decide)] at H; exact H
        clear H
        have H := H8845
        clear H8845
        obtain ⟨y197, hy197⟩ : ∃ y_ : List (S29), y_ = (([] : List (S29))) := ⟨_, rfl⟩
        replace H : (some (y197, false)) = some (r1, r2) := by first | (rw [hy197]; with_reducible exact H) | (have H2_ := (Option.bind_some _ _).symm.trans H; rw [hy197]; with_reducible exact H2_) | (have H2_ := (Option.bind_some _ _).symm.trans H; with_reducible exact H2_) | with_reducible exact H | (rw [hy197]; exact H) | exact H
        have Ny8855 := mk_ hy197
        clear hy197
        simp only [Option.some.injEq, Prod.mk.injEq] at H
        obtain ⟨rfl, rfl⟩ := H
       rotate_left
       focus
        subst c8854
        rw [if_pos rfl] at H
        by_cases c71 : (x6_61.length : Int) > 8
        rotate_left
        focus
         rw [if_neg c71] at H
         have c71b0 : decide (8 < (x6_61.length : Int)) = false := decide_eq_false c71
         have c71b1 : decide (8 < x6_61.length) = false := decide_eq_false (by omega)
         clear c71
         simp only [Option.some.injEq, Prod.mk.injEq] at H
         obtain ⟨rfl, rfl⟩ := H
        rotate_left
        focus
         rw [if_pos c71] at H
         have c71b0 : decide (8 < (x6_61.length : Int)) = true := decide_eq_true c71
         have c71b1 : decide (8 < x6_61.length) = true := decide_eq_true (by omega)
         clear c71
         obtain ⟨y194, hy194⟩ : ∃ y_ : List (S29), y_ = (([] : List (S29))) := ⟨_, rfl⟩
         replace H : (some (y194, false)) = some (r1, r2) := by first | (rw [hy194]; with_reducible exact H) | (have H2_ := (Option.bind_some _ _).symm.trans H; rw [hy194]; with_reducible exact H2_) | (have H2_ := (Option.bind_some _ _).symm.trans H; with_reducible exact H2_) | with_reducible exact H | (rw [hy194]; exact H) | exact H
         have Ny8864 := mk_ hy194
         clear hy194
         simp only [Option.some.injEq, Prod.mk.injEq] at H
         obtain ⟨rfl, rfl⟩ := H
        rotate_left
       rotate_left 2
      rotate_left 3
      have z27_ := trivial
      rotate_left
      have z28_ := trivial
      rotate_left
      rotate_left
      have z29_ := trivial
      rotate_left
      all_goals
       go_wp2_with (first | ((with_reducible refine gate_callee (f := 84) rfl ?_); refine goesL_ (some 71) rfl rfl Try.func84 (by kernel_rfl) rfl #[.slice A0 l0.length c0] rfl (by (try simp only [lm_, lo_, ln_]); try rfl) ?_; (with_reducible refine (spec_RoutesOk.calls kj61 _ _ l0 false _ ?side1 ?side2 A8843.out).mono ?_); (case side1 => repeat (first | exact (Kd.C_below HR0.out HB.out) | (with_reducible refine Kd.C_alloc ?_ _) | (with_reducible refine Kd.C_drewN ?_ _) | (with_reducible refine Kd.C_drew ?_))); (case side2 => exact HC0.out); rintro e w9200 ⟨rfl, hb⟩; refine ⟨_, rfl, ?_⟩; replace HO_6 := mk_ (Kd.R_below (Kd.ur_ HO_6.out) hb); replace BK168 := mk_ (blk_below (u_ BK168.out) hb); replace HB := mk_ (below_step (us_ HB.out) hb)) | ((with_reducible refine gate_callee (f := 84) rfl ?_); refine goesL_ (some 71) rfl rfl Try.func84 (by kernel_rfl) rfl #[.slice A0 l0.length c0] rfl (by (try simp only [lm_, lo_, ln_]); try rfl) ?_; (with_reducible refine (spec_RoutesOk.calls kj61 _ _ l0 true _ ?side1 ?side2 A8843.out).mono ?_); (case side1 => repeat (first | exact (Kd.C_below HR0.out HB.out) | (with_reducible refine Kd.C_alloc ?_ _) | (with_reducible refine Kd.C_drewN ?_ _) | (with_reducible refine Kd.C_drew ?_))); (case side2 => exact HC0.out); rintro e w9200 ⟨rfl, hb⟩; refine ⟨_, rfl, ?_⟩; replace HO_6 := mk_ (Kd.R_below (Kd.ur_ HO_6.out) hb); replace BK168 := mk_ (blk_below (u_ BK168.out) hb); replace HB := mk_ (below_step (us_ HB.out) hb); obtain ⟨_, _, _, _, _, _, _, _⟩ := cells4_ BK168.out) | (have zz_ := z27_; clear zz_; (with_reducible refine gate_dst (N := 83) rfl ?_); refine Kd.R_lit k29 _ 29 ?hg (N := 83) ?hd (xs := ([] : List (S29))) (inner := []) (ok := fun _ => True) (okp := fun _ => True) ?hr ?hp (fun _ hk => hk) trivial (Below.refl _ _) (Nat.le_refl _) (by simp) ?_; (case hd => rfl); (case hg => rfl); (case hr => first | (go_simp; done) | (go_simp; rfl)); (case hp => exact (Reps.none _ _)); intro v9240 w9241 ho9242 hb hg_ hnew_; clear hg_ hnew_; (first | rw [← Ny8846.out] at ho9242 | (simp only [Int.reduceToNat] at ho9242; rw [← Ny8846.out] at ho9242)); have n0_ := mk_ (Kd.R_elder' (Kd.ur_ HO_6.out) (Kd.R_base ho9242) hb); have HO202 := mk_ (Kd.R_lower (Kd.R_newB (Kd.R_new' ho9242 (Kd.R_lt (Kd.ur_ HO_6.out))) (g := gb168) (o := .cells #[.int .i64 a1_0, .int .i64 a1_1, .int .i64 a1_2, .int .i64 a1_3] 29 (0, 0)) (u_ BK168.out)) (below_size (us_ HB.out))); replace BK168 := mk_ (blk_below (u_ BK168.out) hb); replace HB := mk_ (below_step (us_ HB.out) hb); replace HO_6 := n0_; clear n0_; clear hb ho9242) | (have zz_ := z28_; clear zz_; (with_reducible refine gate_dst (N := 83) rfl ?_); refine Kd.R_lit k29 _ 29 ?hg (N := 83) ?hd (xs := ([] : List (S29))) (inner := []) (ok := fun _ => True) (okp := fun _ => True) ?hr ?hp (fun _ hk => hk) trivial (Below.refl _ _) (Nat.le_refl _) (by simp) ?_; (case hd => rfl); (case hg => rfl); (case hr => first | (go_simp; done) | (go_simp; rfl)); (case hp => exact (Reps.none _ _)); intro v9240 w9241 ho9242 hb hg_ hnew_; clear hg_ hnew_; (first | rw [← Ny8855.out] at ho9242 | (simp only [Int.reduceToNat] at ho9242; rw [← Ny8855.out] at ho9242)); have n0_ := mk_ (Kd.R_elder' (Kd.ur_ HO_6.out) (Kd.R_base ho9242) hb); have HO199 := mk_ (Kd.R_lower (Kd.R_newB (Kd.R_new' ho9242 (Kd.R_lt (Kd.ur_ HO_6.out))) (g := gb168) (o := .cells #[.int .i64 a1_0, .int .i64 a1_1, .int .i64 a1_2, .int .i64 a1_3] 29 (0, 0)) (u_ BK168.out)) (below_size (us_ HB.out))); replace BK168 := mk_ (blk_below (u_ BK168.out) hb); replace HB := mk_ (below_step (us_ HB.out) hb); replace HO_6 := n0_; clear n0_; clear hb ho9242) | (have zz_ := z29_; clear zz_; (with_reducible refine gate_dst (N := 83) rfl ?_); refine Kd.R_lit k29 _ 29 ?hg (N := 83) ?hd (xs := ([] : List (S29))) (inner := []) (ok := fun _ => True) (okp := fun _ => True) ?hr ?hp (fun _ hk => hk) trivial (Below.refl _ _) (Nat.le_refl _) (by simp) ?_; (case hd => rfl); (case hg => rfl); (case hr => first | (go_simp; done) | (go_simp; rfl)); (case hp => exact (Reps.none _ _)); intro v9240 w9241 ho9242 hb hg_ hnew_; clear hg_ hnew_; (first | rw [← Ny8864.out] at ho9242 | (simp only [Int.reduceToNat] at ho9242; rw [← Ny8864.out] at ho9242)); have n0_ := mk_ (Kd.R_elder' (Kd.ur_ HO_6.out) (Kd.R_base ho9242) hb); have HO196 := mk_ (Kd.R_lower (Kd.R_newB (Kd.R_new' ho9242 (Kd.R_lt (Kd.ur_ HO_6.out))) (g := gb168) (o := .cells #[.int .i64 a1_0, .int .i64 a1_1, .int .i64 a1_2, .int .i64 a1_3] 29 (0, 0)) (u_ BK168.out)) (below_size (us_ HB.out))); replace BK168 := mk_ (blk_below (u_ BK168.out) hb); replace HB := mk_ (below_step (us_ HB.out) hb); replace HO_6 := n0_; clear n0_; clear hb ho9242) | (go_at_call 117; (with_reducible refine (spec_RouteOk.calls a1_0 a1_1 a1_2 a1_3 false _ A8853.out).mono ?_); rintro e w9760 ⟨rfl, hb⟩; replace HO_6 := mk_ (Kd.R_below (Kd.ur_ HO_6.out) hb); replace BK168 := mk_ (blk_below (u_ BK168.out) hb); replace HB := mk_ (below_step (us_ HB.out) hb)) | (go_at_call 117; (with_reducible refine (spec_RouteOk.calls a1_0 a1_1 a1_2 a1_3 true _ A8853.out).mono ?_); rintro e w9800 ⟨rfl, hb⟩; replace HO_6 := mk_ (Kd.R_below (Kd.ur_ HO_6.out) hb); replace BK168 := mk_ (blk_below (u_ BK168.out) hb); replace HB := mk_ (below_step (us_ HB.out) hb); obtain ⟨Ao9801, co9801, eo9801⟩ := Kd.R_slice HO_6.out; subst eo9801))
       go_ret2
      ·exact ⟨_, by first | rfl | (simp [errW_none, errW_some] <;> rfl) | (simp [*, errW_none, errW_some] <;> rfl), by (with_reducible repeat (first | apply Kd.R_alloc | apply Kd.R_drewN | apply Kd.R_drew)); exact Kd.R_mono HO202.out (fun _ hk => trivial), us_ HB.out⟩
      ·exact ⟨_, by first | rfl | (simp [errW_none, errW_some] <;> rfl) | (simp [*, errW_none, errW_some] <;> rfl), by (with_reducible repeat (first | apply Kd.R_alloc | apply Kd.R_drewN | apply Kd.R_drew)); exact Kd.R_mono HO199.out (fun _ hk => trivial), us_ HB.out⟩
      ·exact ⟨_, by first | rfl | (simp [errW_none, errW_some] <;> rfl) | (simp [*, errW_none, errW_some] <;> rfl), by (with_reducible repeat (first | apply Kd.R_alloc | apply Kd.R_drewN | apply Kd.R_drew)); exact Kd.R_mono HO_6.out (fun _ hk => trivial), us_ HB.out⟩
      ·exact ⟨_, by first | rfl | (simp [errW_none, errW_some] <;> rfl) | (simp [*, errW_none, errW_some] <;> rfl), by (with_reducible repeat (first | apply Kd.R_alloc | apply Kd.R_drewN | apply Kd.R_drew)); exact Kd.R_mono HO196.out (fun _ hk => trivial), us_ HB.out⟩
   ·go_upto_region 7 with (first | ((with_reducible refine gate_dst (N := 9) rfl ?_); refine box_event ?hg (N := 9) ?hd (cs := #[.int .i64 0, .int .i64 0, .int .i64 0, .int .i64 0]) (t := 29) ?hr ?_; (case hd => rfl); (case hg => rfl); (case hr => first | (go_simp; done) | (go_simp; rfl)); intro gb8880 hg w8881 hbox hb; replace HO_6 := mk_ (Kd.R_below (Kd.R_elderB (Kd.ur_ HO_6.out) gb8880 (Nat.le_of_eq hg.symm)) hb); have n1_ := mk_ (blk_below (u_ BK168.out) hb); have n2_ := mk_ (below_step (us_ HB.out) hb); have BK173 := mk_ (hbox); have GW173 := mk_ ((by rw [hg]; exact (below_size (us_ HB.out)) : w.heap.size ≤ gb8880)); have GE173 := ge_ ((by rw [hg]; exact (below_size (us_ HB.out)) : w.heap.size ≤ gb8880)); have NB168_173 := nq_ ((by rw [hg]; exact Nat.ne_of_lt (blk_lt (u_ BK168.out)) : gb168 ≠ gb8880)); have NB173_168 := nq_ ((by rw [hg]; exact Nat.ne_of_gt (blk_lt (u_ BK168.out)) : gb8880 ≠ gb168)); replace BK168 := n1_; replace HB := n2_; clear n1_ n2_; clear hb hbox hg; have hnb1970168173 := NB173_168.out; have hnc1970168173 := NB168_173.out; obtain ⟨hcz1970173_0, hcz1970173_1, hcz1970173_2, hcz1970173_3, hfz1970173_0, hfz1970173_1, hfz1970173_2, hfz1970173_3⟩ := cells4_ BK173.out))
    (try simp only [Act.put, la_, lz_, ls_])
    go_cut [43] (fun v8960 wc => ∃ (kq : Nat) (x43_7 : Bool), v8960 = .bool x43_7 ∧ Aside0 (spec_RoutePut.j1 kq l0 x6_1 x7_1 x8_1 x43_7 a1_0 a1_1 a1_2 a1_3 ((rd_T29 l0 x8_1).f0) ((rd_T29 l0 x8_1).f1) ((rd_T29 l0 x8_1).f2) ((rd_T29 l0 x8_1).f3) = some (r1, r2)) ∧ Aside0 (kq ≤ k1) ∧ Aside0 (Kd.R k29 29 wc w.heap.size (fun k_ => k_ ≠ gb168 ∧ k_ ≠ gb8880) u6 x6_1) ∧ Aside0 (wc.heap[gb168]? = some (.cells #[.int .i64 a1_0, .int .i64 a1_1, .int .i64 a1_2, .int .i64 a1_3] 29 (0, 0))) ∧ Aside0 (wc.heap[gb8880]? = some (.cells #[.int .i64 ((rd_T29 l0 x8_1).f0), .int .i64 ((rd_T29 l0 x8_1).f1), .int .i64 ((rd_T29 l0 x8_1).f2), .int .i64 ((rd_T29 l0 x8_1).f3)] 29 (0, 0))) ∧ Aside0 (Below w.heap.size w wc))
    case first =>
     have H := HC8.out
     clear HC8
     by_cases c9000 : x7_1 = true
     ·subst c9000
      rw [if_pos rfl] at H
      have H' := mk_ H
      clear H
      go_wp2
      go_meet
      case rel => exact ⟨_, (false), (by first | rfl | (simp; done) | (simp [*]; done)), H', ⟨by have := HK1.out; first | omega | exact Nat.le_refl _⟩, ⟨by (with_reducible repeat (first | apply Kd.R_alloc | apply Kd.R_drewN | apply Kd.R_drew)); exact Kd.R_mono (Kd.R_far (p := ⟨gb8880, 3, none⟩) (Kd.R_far (p := ⟨gb8880, 2, none⟩) (Kd.R_far (p := ⟨gb8880, 1, none⟩) (Kd.R_far (p := ⟨gb8880, 0, none⟩) (Kd.R_mono HO_6.out (fun k_ hk => (⟨hk, hk.2⟩ : _ ∧ k_ ≠ gb8880))) (fun _ hk => hk.2) (.int .i64 ((rd_T29 l0 x8_1).f0))) (fun _ hk => hk.2) (.int .i64 ((rd_T29 l0 x8_1).f1))) (fun _ hk => hk.2) (.int .i64 ((rd_T29 l0 x8_1).f2))) (fun _ hk => hk.2) (.int .i64 ((rd_T29 l0 x8_1).f3))) (fun _ hk => by first | exact ⟨hk.1.1, hk.1.2⟩ | exact hk.1 | exact hk | exact ⟨hk.1, hk.2⟩ | exact ⟨.inr hk.1, hk.2⟩ | simp only [hk, ne_eq, not_false_eq_true, and_self])⟩, ⟨uf_ BK168.out⟩, ⟨by (with_reducible repeat (first | refine bn_ ?_ _ | refine bw_ ?_ | refine ba_ ?_ _)); refine blk_put (cs := #[.int .i64 ((rd_T29 l0 x8_1).f0), .int .i64 ((rd_T29 l0 x8_1).f1), .int .i64 ((rd_T29 l0 x8_1).f2), .int .i64 0]) ?_ 3 _ rfl; (with_reducible repeat (first | refine bn_ ?_ _ | refine bw_ ?_ | refine ba_ ?_ _)); refine blk_put (cs := #[.int .i64 ((rd_T29 l0 x8_1).f0), .int .i64 ((rd_T29 l0 x8_1).f1), .int .i64 0, .int .i64 0]) ?_ 2 _ rfl; (with_reducible repeat (first | refine bn_ ?_ _ | refine bw_ ?_ | refine ba_ ?_ _)); refine blk_put (cs := #[.int .i64 ((rd_T29 l0 x8_1).f0), .int .i64 0, .int .i64 0, .int .i64 0]) ?_ 1 _ rfl; (with_reducible repeat (first | refine bn_ ?_ _ | refine bw_ ?_ | refine ba_ ?_ _)); refine blk_put (cs := #[.int .i64 0, .int .i64 0, .int .i64 0, .int .i64 0]) ?_ 0 _ rfl; (with_reducible repeat (first | refine bn_ ?_ _ | refine bw_ ?_ | refine ba_ ?_ _)); exact BK173.out⟩, ⟨us_ HB.out⟩⟩
     replace c9000 := Bool.eq_false_iff.mpr c9000
     subst c9000
     rw [if_neg (show ¬ (false = true) by decide)] at H
     by_cases c13 : a1_1 < ((rd_T29 l0 x8_1).f1)
     ·rw [if_pos c13] at H
      have c13b0 : decide (a1_1 < ((rd_T29 l0 x8_1).f1)) = true := decide_eq_true c13
      clear c13
      (first | rw [c13b0] | (simp only [i64_w, i32_w]; rw [c13b0]) | skip)
      have H' := mk_ H
      clear H
      have hnb2000168173 := NB168_173.out
      have hnc2000168173 := NB173_168.out
      obtain ⟨hcz2000168_0, hcz2000168_1, hcz2000168_2, hcz2000168_3, hfz2000168_0, hfz2000168_1, hfz2000168_2, hfz2000168_3⟩ := cells4_ BK168.out
      obtain ⟨hcz2000173_0, hcz2000173_1, hcz2000173_2, hcz2000173_3, hfz2000173_0, hfz2000173_1, hfz2000173_2, hfz2000173_3⟩ := cells4_ BK173.out
      go_wp2
      go_meet
      case rel => exact ⟨_, (true), (by first | rfl | (simp; done) | (simp [*]; done)), H', ⟨by have := HK1.out; first | omega | exact Nat.le_refl _⟩, ⟨by (with_reducible repeat (first | apply Kd.R_alloc | apply Kd.R_drewN | apply Kd.R_drew)); exact Kd.R_mono (Kd.R_far (p := ⟨gb8880, 3, none⟩) (Kd.R_far (p := ⟨gb8880, 2, none⟩) (Kd.R_far (p := ⟨gb8880, 1, none⟩) (Kd.R_far (p := ⟨gb8880, 0, none⟩) (Kd.R_mono HO_6.out (fun k_ hk => (⟨hk, hk.2⟩ : _ ∧ k_ ≠ gb8880))) (fun _ hk => hk.2) (.int .i64 ((rd_T29 l0 x8_1).f0))) (fun _ hk => hk.2) (.int .i64 ((rd_T29 l0 x8_1).f1))) (fun _ hk => hk.2) (.int .i64 ((rd_T29 l0 x8_1).f2))) (fun _ hk => hk.2) (.int .i64 ((rd_T29 l0 x8_1).f3))) (fun _ hk => by first | exact ⟨hk.1.1, hk.1.2⟩ | exact hk.1 | exact hk | exact ⟨hk.1, hk.2⟩ | exact ⟨.inr hk.1, hk.2⟩ | simp only [hk, ne_eq, not_false_eq_true, and_self])⟩, ⟨uf_ BK168.out⟩, ⟨by (with_reducible repeat (first | refine bn_ ?_ _ | refine bw_ ?_ | refine ba_ ?_ _)); refine blk_put (cs := #[.int .i64 ((rd_T29 l0 x8_1).f0), .int .i64 ((rd_T29 l0 x8_1).f1), .int .i64 ((rd_T29 l0 x8_1).f2), .int .i64 0]) ?_ 3 _ rfl; (with_reducible repeat (first | refine bn_ ?_ _ | refine bw_ ?_ | refine ba_ ?_ _)); refine blk_put (cs := #[.int .i64 ((rd_T29 l0 x8_1).f0), .int .i64 ((rd_T29 l0 x8_1).f1), .int .i64 0, .int .i64 0]) ?_ 2 _ rfl; (with_reducible repeat (first | refine bn_ ?_ _ | refine bw_ ?_ | refine ba_ ?_ _)); refine blk_put (cs := #[.int .i64 ((rd_T29 l0 x8_1).f0), .int .i64 0, .int .i64 0, .int .i64 0]) ?_ 1 _ rfl; (with_reducible repeat (first | refine bn_ ?_ _ | refine bw_ ?_ | refine ba_ ?_ _)); refine blk_put (cs := #[.int .i64 0, .int .i64 0, .int .i64 0, .int .i64 0]) ?_ 0 _ rfl; (with_reducible repeat (first | refine bn_ ?_ _ | refine bw_ ?_ | refine ba_ ?_ _)); exact BK173.out⟩, ⟨us_ HB.out⟩⟩
     rw [if_neg c13] at H
     have c13b0 : decide (a1_1 < ((rd_T29 l0 x8_1).f1)) = false := decide_eq_false c13
     clear c13
     (first | rw [c13b0] | (simp only [i64_w, i32_w]; rw [c13b0]) | skip)
     by_cases c17 : a1_1 = ((rd_T29 l0 x8_1).f1)
     rotate_left
     ·rw [if_neg c17] at H
      have c17b0 : (a1_1 == ((rd_T29 l0 x8_1).f1)) = false := beq_eq_false_iff_ne.mpr c17
      have c17b1 : (a1_1 != ((rd_T29 l0 x8_1).f1)) = true := bne_iff_ne.mpr c17
      have H' := mk_ H
      clear H
      have hnb2000168173 := NB168_173.out
      have hnc2000168173 := NB173_168.out
      obtain ⟨hcz2000168_0, hcz2000168_1, hcz2000168_2, hcz2000168_3, hfz2000168_0, hfz2000168_1, hfz2000168_2, hfz2000168_3⟩ := cells4_ BK168.out
      obtain ⟨hcz2000173_0, hcz2000173_1, hcz2000173_2, hcz2000173_3, hfz2000173_0, hfz2000173_1, hfz2000173_2, hfz2000173_3⟩ := cells4_ BK173.out
      go_wp2
      go_meet
      case rel => exact ⟨_, (false), (by first | rfl | (simp; done) | (simp [*]; done)), H', ⟨by have := HK1.out; first | omega | exact Nat.le_refl _⟩, ⟨by (with_reducible repeat (first | apply Kd.R_alloc | apply Kd.R_drewN | apply Kd.R_drew)); exact Kd.R_mono (Kd.R_far (p := ⟨gb8880, 3, none⟩) (Kd.R_far (p := ⟨gb8880, 2, none⟩) (Kd.R_far (p := ⟨gb8880, 1, none⟩) (Kd.R_far (p := ⟨gb8880, 0, none⟩) (Kd.R_mono HO_6.out (fun k_ hk => (⟨hk, hk.2⟩ : _ ∧ k_ ≠ gb8880))) (fun _ hk => hk.2) (.int .i64 ((rd_T29 l0 x8_1).f0))) (fun _ hk => hk.2) (.int .i64 ((rd_T29 l0 x8_1).f1))) (fun _ hk => hk.2) (.int .i64 ((rd_T29 l0 x8_1).f2))) (fun _ hk => hk.2) (.int .i64 ((rd_T29 l0 x8_1).f3))) (fun _ hk => by first | exact ⟨hk.1.1, hk.1.2⟩ | exact hk.1 | exact hk | exact ⟨hk.1, hk.2⟩ | exact ⟨.inr hk.1, hk.2⟩ | simp only [hk, ne_eq, not_false_eq_true, and_self])⟩, ⟨uf_ BK168.out⟩, ⟨by (with_reducible repeat (first | refine bn_ ?_ _ | refine bw_ ?_ | refine ba_ ?_ _)); refine blk_put (cs := #[.int .i64 ((rd_T29 l0 x8_1).f0), .int .i64 ((rd_T29 l0 x8_1).f1), .int .i64 ((rd_T29 l0 x8_1).f2), .int .i64 0]) ?_ 3 _ rfl; (with_reducible repeat (first | refine bn_ ?_ _ | refine bw_ ?_ | refine ba_ ?_ _)); refine blk_put (cs := #[.int .i64 ((rd_T29 l0 x8_1).f0), .int .i64 ((rd_T29 l0 x8_1).f1), .int .i64 0, .int .i64 0]) ?_ 2 _ rfl; (with_reducible repeat (first | refine bn_ ?_ _ | refine bw_ ?_ | refine ba_ ?_ _)); refine blk_put (cs := #[.int .i64 ((rd_T29 l0 x8_1).f0), .int .i64 0, .int .i64 0, .int .i64 0]) ?_ 1 _ rfl; (with_reducible repeat (first | refine bn_ ?_ _ | refine bw_ ?_ | refine ba_ ?_ _)); refine blk_put (cs := #[.int .i64 0, .int .i64 0, .int .i64 0, .int .i64 0]) ?_ 0 _ rfl; (with_reducible repeat (first | refine bn_ ?_ _ | refine bw_ ?_ | refine ba_ ?_ _)); exact BK173.out⟩, ⟨us_ HB.out⟩⟩
     rw [if_pos c17] at H
     have c17b0 : (a1_1 == ((rd_T29 l0 x8_1).f1)) = true := beq_iff_eq.mpr c17
     have c17b1 : (a1_1 != ((rd_T29 l0 x8_1).f1)) = false := bne_eq_false_iff_eq.mpr c17
     clear c17
     have H' := mk_ H
     clear H
     have hnb2000168173 := NB168_173.out
     have hnc2000168173 := NB173_168.out
     obtain ⟨hcz2000168_0, hcz2000168_1, hcz2000168_2, hcz2000168_3, hfz2000168_0, hfz2000168_1, hfz2000168_2, hfz2000168_3⟩ := cells4_ BK168.out
     obtain ⟨hcz2000173_0, hcz2000173_1, hcz2000173_2, hcz2000173_3, hfz2000173_0, hfz2000173_1, hfz2000173_2, hfz2000173_3⟩ := cells4_ BK173.out
     go_wp2
     go_meet
     case rel => exact ⟨_, (decide (a1_0 ≤ ((rd_T29 l0 x8_1).f0))), (by first | rfl | (simp; done) | (simp [*]; done)), H', ⟨by have := HK1.out; first | omega | exact Nat.le_refl _⟩, ⟨by (with_reducible repeat (first | apply Kd.R_alloc | apply Kd.R_drewN | apply Kd.R_drew)); exact Kd.R_mono (Kd.R_far (p := ⟨gb8880, 3, none⟩) (Kd.R_far (p := ⟨gb8880, 2, none⟩) (Kd.R_far (p := ⟨gb8880, 1, none⟩) (Kd.R_far (p := ⟨gb8880, 0, none⟩) (Kd.R_mono HO_6.out (fun k_ hk => (⟨hk, hk.2⟩ : _ ∧ k_ ≠ gb8880))) (fun _ hk => hk.2) (.int .i64 ((rd_T29 l0 x8_1).f0))) (fun _ hk => hk.2) (.int .i64 ((rd_T29 l0 x8_1).f1))) (fun _ hk => hk.2) (.int .i64 ((rd_T29 l0 x8_1).f2))) (fun _ hk => hk.2) (.int .i64 ((rd_T29 l0 x8_1).f3))) (fun _ hk => by first | exact ⟨hk.1.1, hk.1.2⟩ | exact hk.1 | exact hk | exact ⟨hk.1, hk.2⟩ | exact ⟨.inr hk.1, hk.2⟩ | simp only [hk, ne_eq, not_false_eq_true, and_self])⟩, ⟨uf_ BK168.out⟩, ⟨by (with_reducible repeat (first | refine bn_ ?_ _ | refine bw_ ?_ | refine ba_ ?_ _)); refine blk_put (cs := #[.int .i64 ((rd_T29 l0 x8_1).f0), .int .i64 ((rd_T29 l0 x8_1).f1), .int .i64 ((rd_T29 l0 x8_1).f2), .int .i64 0]) ?_ 3 _ rfl; (with_reducible repeat (first | refine bn_ ?_ _ | refine bw_ ?_ | refine ba_ ?_ _)); refine blk_put (cs := #[.int .i64 ((rd_T29 l0 x8_1).f0), .int .i64 ((rd_T29 l0 x8_1).f1), .int .i64 0, .int .i64 0]) ?_ 2 _ rfl; (with_reducible repeat (first | refine bn_ ?_ _ | refine bw_ ?_ | refine ba_ ?_ _)); refine blk_put (cs := #[.int .i64 ((rd_T29 l0 x8_1).f0), .int .i64 0, .int .i64 0, .int .i64 0]) ?_ 1 _ rfl; (with_reducible repeat (first | refine bn_ ?_ _ | refine bw_ ?_ | refine ba_ ?_ _)); refine blk_put (cs := #[.int .i64 0, .int .i64 0, .int .i64 0, .int .i64 0]) ?_ 0 _ rfl; (with_reducible repeat (first | refine bn_ ?_ _ | refine bw_ ?_ | refine ba_ ?_ _)); exact BK173.out⟩, ⟨us_ HB.out⟩⟩
    case rest =>
     clear HC8
     try clear c1
     try clear p1
     try clear q1
     try clear hx1
     try clear c2
     try clear p2
     try clear c6
     try clear c6b0
     try clear c7
     try clear c7b0
     try clear c8
     try clear c10
     try clear c9000
     try clear c13
     try clear c13b0
     try clear c14
     try clear c17
     try clear c17b0
     try clear c17b1
     try clear p17
     try clear q17
     try clear hx17
     try clear c18
     try clear c21
     try clear hcz1970173_0
     try clear hcz1970173_1
     try clear hcz1970173_2
     try clear hcz1970173_3
     try clear hcz2000168_0
     try clear hcz2000168_1
     try clear hcz2000168_2
     try clear hcz2000168_3
     try clear hcz2000173_0
     try clear hcz2000173_1
     try clear hcz2000173_2
     try clear hcz2000173_3
     try clear hcz2000168_0
     try clear hcz2000168_1
     try clear hcz2000168_2
     try clear hcz2000168_3
     try clear hcz2000173_0
     try clear hcz2000173_1
     try clear hcz2000173_2
     try clear hcz2000173_3
     try clear hcz2000168_0
     try clear hcz2000168_1
     try clear hcz2000168_2
     try clear hcz2000168_3
     try clear hcz2000173_0
     try clear hcz2000173_1
     try clear hcz2000173_2
     try clear hcz2000173_3
     try clear hfz1970173_0
     try clear hfz1970173_1
     try clear hfz1970173_2
     try clear hfz1970173_3
     try clear hfz2000168_0
     try clear hfz2000168_1
     try clear hfz2000168_2
     try clear hfz2000168_3
     try clear hfz2000173_0
     try clear hfz2000173_1
     try clear hfz2000173_2
     try clear hfz2000173_3
     try clear hfz2000168_0
     try clear hfz2000168_1
     try clear hfz2000168_2
     try clear hfz2000168_3
     try clear hfz2000173_0
     try clear hfz2000173_1
     try clear hfz2000173_2
     try clear hfz2000173_3
     try clear hfz2000168_0
     try clear hfz2000168_1
     try clear hfz2000168_2
     try clear hfz2000168_3
     try clear hfz2000173_0
     try clear hfz2000173_1
     try clear hfz2000173_2
     try clear hfz2000173_3
     try clear hx172_0
     try clear hx172_1
     try clear hx172_2
     try clear hx172_3
     try clear p172
     try clear p2
     try clear q172
     obtain ⟨kq, x43_7, rfl, HA, HJ9040, HO_6, BK168, BK173, HB⟩ := hcut
     cases kq with
     | zero => exact absurd HA.out (by simp [spec_RoutePut.j1])
     | succ kj7 =>
      have H := HA.out
      clear HA
      simp only [spec_RoutePut.j1] at H
      by_cases c9041 : x43_7 = true
      ·subst c9041
       rw [if_pos rfl] at H
       by_cases c25 : x6_1.length < 4398046511104
       rotate_left
       ·rw [if_neg c25] at H
        exact absurd H (by simp)
       rw [if_pos c25] at H
       have LMc9042 := mk_ c25
       clear c25
       obtain ⟨y174, hy174⟩ : ∃ y_ : List (S29), y_ = (x6_1 ++ [(⟨a1_0, a1_1, a1_2, a1_3⟩ : S29)]) := ⟨_, rfl⟩
       replace H : (if ((rd_T29 l0 x8_1).f1) = a1_1 then (if ((rd_T29 l0 x8_1).f0) = a1_0 then (spec_RoutePut.l0 kj7 l0 y174 true (wrap64 (x8_1 + 1)) a1_0 a1_1 a1_2 a1_3) else (if y174.length < 4398046511104 then (spec_RoutePut.l0 kj7 l0 (y174 ++ [(⟨((rd_T29 l0 x8_1).f0), ((rd_T29 l0 x8_1).f1), ((rd_T29 l0 x8_1).f2), ((rd_T29 l0 x8_1).f3)⟩ : S29)]) true (wrap64 (x8_1 + 1)) a1_0 a1_1 a1_2 a1_3) else (none))) else (if y174.length < 4398046511104 then (spec_RoutePut.l0 kj7 l0 (y174 ++ [(⟨((rd_T29 l0 x8_1).f0), ((rd_T29 l0 x8_1).f1), ((rd_T29 l0 x8_1).f2), ((rd_T29 l0 x8_1).f3)⟩ : S29)]) true (wrap64 (x8_1 + 1)) a1_0 a1_1 a1_2 a1_3) else (none))) = some (r1, r2) := by first | (rw [hy174]; with_reducible exact H) | (have H2_ := (Option.bind_some _ _).symm.trans H; rw [hy174]; with_reducible exact H2_) | (have H2_ := (Option.bind_some _ _).symm.trans H; with_reducible exact H2_) | with_reducible exact H | (rw [hy174]; exact H) | exact H
       have Ny9043 := mk_ hy174
       clear hy174
       by_cases c26 : ((rd_T29 l0 x8_1).f1) = a1_1
       rotate_left
       focus
        rw [if_neg c26] at H
        have c26b0 : (((rd_T29 l0 x8_1).f1) == a1_1) = false := beq_eq_false_iff_ne.mpr c26
        have c26b1 : (((rd_T29 l0 x8_1).f1) != a1_1) = true := bne_iff_ne.mpr c26
        by_cases c40 : y174.length < 4398046511104
        rotate_left
        ·rw [if_neg c40] at H
         exact absurd H (by simp)
        rw [if_pos c40] at H
        have LMc9044 := mk_ c40
        clear c40
        obtain ⟨y180, hy180⟩ : ∃ y_ : List (S29), y_ = (y174 ++ [(⟨((rd_T29 l0 x8_1).f0), ((rd_T29 l0 x8_1).f1), ((rd_T29 l0 x8_1).f2), ((rd_T29 l0 x8_1).f3)⟩ : S29)]) := ⟨_, rfl⟩
        replace H : (spec_RoutePut.l0 kj7 l0 y180 true (wrap64 (x8_1 + 1)) a1_0 a1_1 a1_2 a1_3) = some (r1, r2) := by first | (rw [hy180]; with_reducible exact H) | (have H2_ := (Option.bind_some _ _).symm.trans H; rw [hy180]; with_reducible exact H2_) | (have H2_ := (Option.bind_some _ _).symm.trans H; with_reducible exact H2_) | with_reducible exact H | (rw [hy180]; exact H) | exact H
        have Ny9045 := mk_ hy180
        clear hy180
        have H' := mk_ H
        clear H
        have hnb2010168173 := NB168_173.out
        have hnc2010168173 := NB173_168.out
        obtain ⟨hcz2010168_0, hcz2010168_1, hcz2010168_2, hcz2010168_3, hfz2010168_0, hfz2010168_1, hfz2010168_2, hfz2010168_3⟩ := cells4_ BK168.out
       rotate_left
       focus
        rw [if_pos c26] at H
        have c26b0 : (((rd_T29 l0 x8_1).f1) == a1_1) = true := beq_iff_eq.mpr c26
        have c26b1 : (((rd_T29 l0 x8_1).f1) != a1_1) = false := bne_eq_false_iff_eq.mpr c26
        clear c26
        by_cases c27 : ((rd_T29 l0 x8_1).f0) = a1_0
        focus
         rw [if_pos c27] at H
         have c27b0 : (((rd_T29 l0 x8_1).f0) == a1_0) = true := beq_iff_eq.mpr c27
         have c27b1 : (((rd_T29 l0 x8_1).f0) != a1_0) = false := bne_eq_false_iff_eq.mpr c27
         clear c27
         have H' := mk_ H
         clear H
         have hnb2010168173 := NB168_173.out
         have hnc2010168173 := NB173_168.out
         obtain ⟨hcz2010168_0, hcz2010168_1, hcz2010168_2, hcz2010168_3, hfz2010168_0, hfz2010168_1, hfz2010168_2, hfz2010168_3⟩ := cells4_ BK168.out
        rotate_left
        focus
         rw [if_neg c27] at H
         have c27b0 : (((rd_T29 l0 x8_1).f0) == a1_0) = false := beq_eq_false_iff_ne.mpr c27
         have c27b1 : (((rd_T29 l0 x8_1).f0) != a1_0) = true := bne_iff_ne.mpr c27
         by_cases c33 : y174.length < 4398046511104
         rotate_left
         ·rw [if_neg c33] at H
          exact absurd H (by simp)
         rw [if_pos c33] at H
         have LMc9050 := mk_ c33
         clear c33
         obtain ⟨y177, hy177⟩ : ∃ y_ : List (S29), y_ = (y174 ++ [(⟨((rd_T29 l0 x8_1).f0), ((rd_T29 l0 x8_1).f1), ((rd_T29 l0 x8_1).f2), ((rd_T29 l0 x8_1).f3)⟩ : S29)]) := ⟨_, rfl⟩
         replace H : (spec_RoutePut.l0 kj7 l0 y177 true (wrap64 (x8_1 + 1)) a1_0 a1_1 a1_2 a1_3) = some (r1, r2) := by first | (rw [hy177]; with_reducible exact H) | (have H2_ := (Option.bind_some _ _).symm.trans H; rw [hy177]; with_reducible exact H2_) | (have H2_ := (Option.bind_some _ _).symm.trans H; with_reducible exact H2_) | with_reducible exact H | (rw [hy177]; exact H) | exact H
         have Ny9051 := mk_ hy177
         clear hy177
         have H' := mk_ H
         clear H
         have hnb2010168173 := NB168_173.out
         have hnc2010168173 := NB173_168.out
         obtain ⟨hcz2010168_0, hcz2010168_1, hcz2010168_2, hcz2010168_3, hfz2010168_0, hfz2010168_1, hfz2010168_2, hfz2010168_3⟩ := cells4_ BK168.out
        rotate_left
       rotate_left 2
       have z30_ := trivial
       rotate_left
       rotate_left
       have z31_ := trivial
       rotate_left
       all_goals
        go_wp2_with (first | ((with_reducible refine gate_builtin (b := .append) (xs := #[.tmp 44, .tmp 46]) rfl ?_); at_builtin; refine Kd.R_append k29 (w0 := w) w.heap.size rfl (.tmp 44) (.tmp 46) 32 29 (.agg #[(.int .i64 0), (.int .i64 0), (.int .i64 0), (.int .i64 0)]) 32 rfl Try.underlying32 info29 rfl (by decide) (by omega) u6 x6_1 (⟨a1_0, a1_1, a1_2, a1_3⟩ : S29) [.int .i64 a1_0, .int .i64 a1_1, .int .i64 a1_2, .int .i64 a1_3] (fun k_ => k_ ≠ gb168 ∧ k_ ≠ gb8880) (fun _ => False) rfl rfl ?aP (fun _ hk => hk.elim) ?aF ?aO ?aB ?aS ?aL ?_; (case aP => exact k29_mkM _ _ _ (⟨a1_0, a1_1, a1_2, a1_3⟩ : S29)); (case aB => exact (us_ HB.out)); (case aF => exact (fun k_ hk => ⟨Kd.freshB (g := gb168) (o := .cells #[.int .i64 a1_0, .int .i64 a1_1, .int .i64 a1_2, .int .i64 a1_3] 29 (0, 0)) (u_ BK168.out) k_ hk, Kd.freshB (g := gb8880) (o := .cells #[.int .i64 ((rd_T29 l0 x8_1).f0), .int .i64 ((rd_T29 l0 x8_1).f1), .int .i64 ((rd_T29 l0 x8_1).f2), .int .i64 ((rd_T29 l0 x8_1).f3)] 29 (0, 0)) (u_ BK173.out) k_ hk⟩)); (case aO => exact (Kd.ur_ HO_6.out)); (case aS => exact (below_size (us_ HB.out))); (case aL => have := LMc9042.out; omega); intro v9480 w9481 ho hb hg hat; rw [← Ny9043.out] at ho; replace BK168 := mk_ (blk_grown (g := gb168) (o := .cells #[.int .i64 a1_0, .int .i64 a1_1, .int .i64 a1_2, .int .i64 a1_3] 29 (0, 0)) (u_ BK168.out) hg (Kd.R_away HO_6.out (fun _ hk => hk.1))); replace BK173 := mk_ (blk_grown (g := gb8880) (o := .cells #[.int .i64 ((rd_T29 l0 x8_1).f0), .int .i64 ((rd_T29 l0 x8_1).f1), .int .i64 ((rd_T29 l0 x8_1).f2), .int .i64 ((rd_T29 l0 x8_1).f3)] 29 (0, 0)) (u_ BK173.out) hg (Kd.R_away HO_6.out (fun _ hk => hk.2))); replace HB := mk_ (hb); have HO176 := mk_ (ho); clear HO_6; clear ho hb hg hat; obtain ⟨hcz2120173_0, hcz2120173_1, hcz2120173_2, hcz2120173_3, hfz2120173_0, hfz2120173_1, hfz2120173_2, hfz2120173_3⟩ := cells4_ BK173.out; obtain ⟨hcz2010168_0, hcz2010168_1, hcz2010168_2, hcz2010168_3, hfz2010168_0, hfz2010168_1, hfz2010168_2, hfz2010168_3⟩ := cells4_ BK168.out) | (have zz_ := z30_; clear zz_; (with_reducible refine gate_builtin (b := .append) (xs := #[.tmp 60, .tmp 62]) rfl ?_); at_builtin; refine Kd.R_append k29 (w0 := w) w.heap.size rfl (.tmp 60) (.tmp 62) 32 29 (.agg #[(.int .i64 0), (.int .i64 0), (.int .i64 0), (.int .i64 0)]) 32 rfl Try.underlying32 info29 rfl (by decide) (by omega) v9480 y174 (⟨((rd_T29 l0 x8_1).f0), ((rd_T29 l0 x8_1).f1), ((rd_T29 l0 x8_1).f2), ((rd_T29 l0 x8_1).f3)⟩ : S29) [.int .i64 ((rd_T29 l0 x8_1).f0), .int .i64 ((rd_T29 l0 x8_1).f1), .int .i64 ((rd_T29 l0 x8_1).f2), .int .i64 ((rd_T29 l0 x8_1).f3)] (fun k_ => k_ ≠ gb168 ∧ k_ ≠ gb8880) (fun _ => False) rfl rfl ?aP (fun _ hk => hk.elim) ?aF ?aO ?aB ?aS ?aL ?_; (case aP => exact k29_mkM _ _ _ (⟨((rd_T29 l0 x8_1).f0), ((rd_T29 l0 x8_1).f1), ((rd_T29 l0 x8_1).f2), ((rd_T29 l0 x8_1).f3)⟩ : S29)); (case aB => exact (us_ HB.out)); (case aF => exact (fun k_ hk => ⟨Kd.freshB (g := gb168) (o := .cells #[.int .i64 a1_0, .int .i64 a1_1, .int .i64 a1_2, .int .i64 a1_3] 29 (0, 0)) (u_ BK168.out) k_ hk, Kd.freshB (g := gb8880) (o := .cells #[.int .i64 ((rd_T29 l0 x8_1).f0), .int .i64 ((rd_T29 l0 x8_1).f1), .int .i64 ((rd_T29 l0 x8_1).f2), .int .i64 ((rd_T29 l0 x8_1).f3)] 29 (0, 0)) (u_ BK173.out) k_ hk⟩)); (case aO => exact (Kd.ur_ HO176.out)); (case aS => exact (below_size (us_ HB.out))); (case aL => have := LMc9044.out; omega); intro v9520 w9521 ho hb hg hat; rw [← Ny9045.out] at ho; replace BK168 := mk_ (blk_grown (g := gb168) (o := .cells #[.int .i64 a1_0, .int .i64 a1_1, .int .i64 a1_2, .int .i64 a1_3] 29 (0, 0)) (u_ BK168.out) hg (Kd.R_away HO176.out (fun _ hk => hk.1))); replace BK173 := mk_ (blk_grown (g := gb8880) (o := .cells #[.int .i64 ((rd_T29 l0 x8_1).f0), .int .i64 ((rd_T29 l0 x8_1).f1), .int .i64 ((rd_T29 l0 x8_1).f2), .int .i64 ((rd_T29 l0 x8_1).f3)] 29 (0, 0)) (u_ BK173.out) hg (Kd.R_away HO176.out (fun _ hk => hk.2))); replace HB := mk_ (hb); have HO182 := mk_ (ho); clear HO176; clear ho hb hg hat) | (have zz_ := z31_; clear zz_; (with_reducible refine gate_builtin (b := .append) (xs := #[.tmp 60, .tmp 62]) rfl ?_); at_builtin; refine Kd.R_append k29 (w0 := w) w.heap.size rfl (.tmp 60) (.tmp 62) 32 29 (.agg #[(.int .i64 0), (.int .i64 0), (.int .i64 0), (.int .i64 0)]) 32 rfl Try.underlying32 info29 rfl (by decide) (by omega) v9480 y174 (⟨((rd_T29 l0 x8_1).f0), ((rd_T29 l0 x8_1).f1), ((rd_T29 l0 x8_1).f2), ((rd_T29 l0 x8_1).f3)⟩ : S29) [.int .i64 ((rd_T29 l0 x8_1).f0), .int .i64 ((rd_T29 l0 x8_1).f1), .int .i64 ((rd_T29 l0 x8_1).f2), .int .i64 ((rd_T29 l0 x8_1).f3)] (fun k_ => k_ ≠ gb168 ∧ k_ ≠ gb8880) (fun _ => False) rfl rfl ?aP (fun _ hk => hk.elim) ?aF ?aO ?aB ?aS ?aL ?_; (case aP => exact k29_mkM _ _ _ (⟨((rd_T29 l0 x8_1).f0), ((rd_T29 l0 x8_1).f1), ((rd_T29 l0 x8_1).f2), ((rd_T29 l0 x8_1).f3)⟩ : S29)); (case aB => exact (us_ HB.out)); (case aF => exact (fun k_ hk => ⟨Kd.freshB (g := gb168) (o := .cells #[.int .i64 a1_0, .int .i64 a1_1, .int .i64 a1_2, .int .i64 a1_3] 29 (0, 0)) (u_ BK168.out) k_ hk, Kd.freshB (g := gb8880) (o := .cells #[.int .i64 ((rd_T29 l0 x8_1).f0), .int .i64 ((rd_T29 l0 x8_1).f1), .int .i64 ((rd_T29 l0 x8_1).f2), .int .i64 ((rd_T29 l0 x8_1).f3)] 29 (0, 0)) (u_ BK173.out) k_ hk⟩)); (case aO => exact (Kd.ur_ HO176.out)); (case aS => exact (below_size (us_ HB.out))); (case aL => have := LMc9050.out; omega); intro v9520 w9521 ho hb hg hat; rw [← Ny9051.out] at ho; replace BK168 := mk_ (blk_grown (g := gb168) (o := .cells #[.int .i64 a1_0, .int .i64 a1_1, .int .i64 a1_2, .int .i64 a1_3] 29 (0, 0)) (u_ BK168.out) hg (Kd.R_away HO176.out (fun _ hk => hk.1))); replace BK173 := mk_ (blk_grown (g := gb8880) (o := .cells #[.int .i64 ((rd_T29 l0 x8_1).f0), .int .i64 ((rd_T29 l0 x8_1).f1), .int .i64 ((rd_T29 l0 x8_1).f2), .int .i64 ((rd_T29 l0 x8_1).f3)] 29 (0, 0)) (u_ BK173.out) hg (Kd.R_away HO176.out (fun _ hk => hk.2))); replace HB := mk_ (hb); have HO179 := mk_ (ho); clear HO176; clear ho hb hg hat))
        go_roundg kj7
        case measure => have := HK1.out; have := HJ9040.out; omega
       ·case rel => exact ⟨(y180), (true), (wrap64 (x8_1 + 1)), (by first | rfl | (simp; done) | (simp [*]; done)), (by first | rfl | (simp; done) | (simp [*]; done)), H', ⟨by have := HK1.out; have := HJ9040.out; omega⟩, ⟨by (with_reducible repeat (first | apply Kd.R_alloc | apply Kd.R_drewN | apply Kd.R_drew)); exact Kd.R_mono HO182.out (fun _ hk => hk.1)⟩, ⟨u_ BK168.out⟩, ⟨us_ HB.out⟩⟩
       ·case rel => exact ⟨(y174), (true), (wrap64 (x8_1 + 1)), (by first | rfl | (simp; done) | (simp [*]; done)), (by first | rfl | (simp; done) | (simp [*]; done)), H', ⟨by have := HK1.out; have := HJ9040.out; omega⟩, ⟨by (with_reducible repeat (first | apply Kd.R_alloc | apply Kd.R_drewN | apply Kd.R_drew)); exact Kd.R_mono HO176.out (fun _ hk => hk.1)⟩, ⟨u_ BK168.out⟩, ⟨us_ HB.out⟩⟩
       ·case rel => exact ⟨(y177), (true), (wrap64 (x8_1 + 1)), (by first | rfl | (simp; done) | (simp [*]; done)), (by first | rfl | (simp; done) | (simp [*]; done)), H', ⟨by have := HK1.out; have := HJ9040.out; omega⟩, ⟨by (with_reducible repeat (first | apply Kd.R_alloc | apply Kd.R_drewN | apply Kd.R_drew)); exact Kd.R_mono HO179.out (fun _ hk => hk.1)⟩, ⟨u_ BK168.out⟩, ⟨us_ HB.out⟩⟩
      replace c9041 := Bool.eq_false_iff.mpr c9041
      subst c9041
      rw [if_neg (show ¬ (false = true) by decide)] at H
      by_cases c47 : ((rd_T29 l0 x8_1).f1) = a1_1
      rotate_left
      ·rw [if_neg c47] at H
       have c47b0 : (((rd_T29 l0 x8_1).f1) == a1_1) = false := beq_eq_false_iff_ne.mpr c47
       have c47b1 : (((rd_T29 l0 x8_1).f1) != a1_1) = true := bne_iff_ne.mpr c47
       by_cases c57 : x6_1.length < 4398046511104
       rotate_left
       ·rw [if_neg c57] at H
        exact absurd H (by simp)
       rw [if_pos c57] at H
       have LMc9055 := mk_ c57
       clear c57
       obtain ⟨y186, hy186⟩ : ∃ y_ : List (S29), y_ = (x6_1 ++ [(⟨((rd_T29 l0 x8_1).f0), ((rd_T29 l0 x8_1).f1), ((rd_T29 l0 x8_1).f2), ((rd_T29 l0 x8_1).f3)⟩ : S29)]) := ⟨_, rfl⟩
       replace H : (spec_RoutePut.l0 kj7 l0 y186 x7_1 (wrap64 (x8_1 + 1)) a1_0 a1_1 a1_2 a1_3) = some (r1, r2) := by first | (rw [hy186]; with_reducible exact H) | (have H2_ := (Option.bind_some _ _).symm.trans H; rw [hy186]; with_reducible exact H2_) | (have H2_ := (Option.bind_some _ _).symm.trans H; with_reducible exact H2_) | with_reducible exact H | (rw [hy186]; exact H) | exact H
       have Ny9056 := mk_ hy186
       clear hy186
       have H' := mk_ H
       clear H
       have hnb2010168173 := NB173_168.out
       have hnc2010168173 := NB168_173.out
       obtain ⟨hcz2010173_0, hcz2010173_1, hcz2010173_2, hcz2010173_3, hfz2010173_0, hfz2010173_1, hfz2010173_2, hfz2010173_3⟩ := cells4_ BK173.out
       obtain ⟨hcz2010168_0, hcz2010168_1, hcz2010168_2, hcz2010168_3, hfz2010168_0, hfz2010168_1, hfz2010168_2, hfz2010168_3⟩ := cells4_ BK168.out
       go_wp2_with (first | ((with_reducible refine gate_builtin (b := .append) (xs := #[.tmp 60, .tmp 62]) rfl ?_); at_builtin; refine Kd.R_append k29 (w0 := w) w.heap.size rfl (.tmp 60) (.tmp 62) 32 29 (.agg #[(.int .i64 0), (.int .i64 0), (.int .i64 0), (.int .i64 0)]) 32 rfl Try.underlying32 info29 rfl (by decide) (by omega) u6 x6_1 (⟨((rd_T29 l0 x8_1).f0), ((rd_T29 l0 x8_1).f1), ((rd_T29 l0 x8_1).f2), ((rd_T29 l0 x8_1).f3)⟩ : S29) [.int .i64 ((rd_T29 l0 x8_1).f0), .int .i64 ((rd_T29 l0 x8_1).f1), .int .i64 ((rd_T29 l0 x8_1).f2), .int .i64 ((rd_T29 l0 x8_1).f3)] (fun k_ => k_ ≠ gb168 ∧ k_ ≠ gb8880) (fun _ => False) rfl rfl ?aP (fun _ hk => hk.elim) ?aF ?aO ?aB ?aS ?aL ?_; (case aP => exact k29_mkM _ _ _ (⟨((rd_T29 l0 x8_1).f0), ((rd_T29 l0 x8_1).f1), ((rd_T29 l0 x8_1).f2), ((rd_T29 l0 x8_1).f3)⟩ : S29)); (case aB => exact (us_ HB.out)); (case aF => exact (fun k_ hk => ⟨Kd.freshB (g := gb168) (o := .cells #[.int .i64 a1_0, .int .i64 a1_1, .int .i64 a1_2, .int .i64 a1_3] 29 (0, 0)) (u_ BK168.out) k_ hk, Kd.freshB (g := gb8880) (o := .cells #[.int .i64 ((rd_T29 l0 x8_1).f0), .int .i64 ((rd_T29 l0 x8_1).f1), .int .i64 ((rd_T29 l0 x8_1).f2), .int .i64 ((rd_T29 l0 x8_1).f3)] 29 (0, 0)) (u_ BK173.out) k_ hk⟩)); (case aO => exact (Kd.ur_ HO_6.out)); (case aS => exact (below_size (us_ HB.out))); (case aL => have := LMc9055.out; omega); intro v9057 w9058 ho hb hg hat; rw [← Ny9056.out] at ho; replace BK168 := mk_ (blk_grown (g := gb168) (o := .cells #[.int .i64 a1_0, .int .i64 a1_1, .int .i64 a1_2, .int .i64 a1_3] 29 (0, 0)) (u_ BK168.out) hg (Kd.R_away HO_6.out (fun _ hk => hk.1))); replace BK173 := mk_ (blk_grown (g := gb8880) (o := .cells #[.int .i64 ((rd_T29 l0 x8_1).f0), .int .i64 ((rd_T29 l0 x8_1).f1), .int .i64 ((rd_T29 l0 x8_1).f2), .int .i64 ((rd_T29 l0 x8_1).f3)] 29 (0, 0)) (u_ BK173.out) hg (Kd.R_away HO_6.out (fun _ hk => hk.2))); replace HB := mk_ (hb); have HO188 := mk_ (ho); clear HO_6; clear ho hb hg hat))
       go_roundg kj7
       case measure => have := HK1.out; have := HJ9040.out; omega
       case rel => exact ⟨(y186), (x7_1), (wrap64 (x8_1 + 1)), (by first | rfl | (simp; done) | (simp [*]; done)), (by first | rfl | (simp; done) | (simp [*]; done)), H', ⟨by have := HK1.out; have := HJ9040.out; omega⟩, ⟨by (with_reducible repeat (first | apply Kd.R_alloc | apply Kd.R_drewN | apply Kd.R_drew)); exact Kd.R_mono HO188.out (fun _ hk => hk.1)⟩, ⟨u_ BK168.out⟩, ⟨us_ HB.out⟩⟩
      rw [if_pos c47] at H
      have c47b0 : (((rd_T29 l0 x8_1).f1) == a1_1) = true := beq_iff_eq.mpr c47
      have c47b1 : (((rd_T29 l0 x8_1).f1) != a1_1) = false := bne_eq_false_iff_eq.mpr c47
      clear c47
      by_cases c48 : ((rd_T29 l0 x8_1).f0) = a1_0
      ·rw [if_pos c48] at H
       have c48b0 : (((rd_T29 l0 x8_1).f0) == a1_0) = true := beq_iff_eq.mpr c48
       have c48b1 : (((rd_T29 l0 x8_1).f0) != a1_0) = false := bne_eq_false_iff_eq.mpr c48
       clear c48
       have H' := mk_ H
       clear H
       have hnb2010168173 := NB173_168.out
       have hnc2010168173 := NB168_173.out
       obtain ⟨hcz2010173_0, hcz2010173_1, hcz2010173_2, hcz2010173_3, hfz2010173_0, hfz2010173_1, hfz2010173_2, hfz2010173_3⟩ := cells4_ BK173.out
       obtain ⟨hcz2010168_0, hcz2010168_1, hcz2010168_2, hcz2010168_3, hfz2010168_0, hfz2010168_1, hfz2010168_2, hfz2010168_3⟩ := cells4_ BK168.out
       go_wp2
       go_roundg kj7
       case measure => have := HK1.out; have := HJ9040.out; omega
       case rel => exact ⟨(x6_1), (x7_1), (wrap64 (x8_1 + 1)), (by first | rfl | (simp; done) | (simp [*]; done)), (by first | rfl | (simp; done) | (simp [*]; done)), H', ⟨by have := HK1.out; have := HJ9040.out; omega⟩, ⟨by (with_reducible repeat (first | apply Kd.R_alloc | apply Kd.R_drewN | apply Kd.R_drew)); exact Kd.R_mono HO_6.out (fun _ hk => hk.1)⟩, ⟨u_ BK168.out⟩, ⟨us_ HB.out⟩⟩
      rw [if_neg c48] at H
      have c48b0 : (((rd_T29 l0 x8_1).f0) == a1_0) = false := beq_eq_false_iff_ne.mpr c48
      have c48b1 : (((rd_T29 l0 x8_1).f0) != a1_0) = true := bne_iff_ne.mpr c48
      by_cases c52 : x6_1.length < 4398046511104
      rotate_left
      ·rw [if_neg c52] at H
       exact absurd H (by simp)
      rw [if_pos c52] at H
      have LMc9059 := mk_ c52
      clear c52
      obtain ⟨y183, hy183⟩ : ∃ y_ : List (S29), y_ = (x6_1 ++ [(⟨((rd_T29 l0 x8_1).f0), ((rd_T29 l0 x8_1).f1), ((rd_T29 l0 x8_1).f2), ((rd_T29 l0 x8_1).f3)⟩ : S29)]) := ⟨_, rfl⟩
      replace H : (spec_RoutePut.l0 kj7 l0 y183 x7_1 (wrap64 (x8_1 + 1)) a1_0 a1_1 a1_2 a1_3) = some (r1, r2) := by first | (rw [hy183]; with_reducible exact H) | (have H2_ := (Option.bind_some _ _).symm.trans H; rw [hy183]; with_reducible exact H2_) | (have H2_ := (Option.bind_some _ _).symm.trans H; with_reducible exact H2_) | with_reducible exact H | (rw [hy183]; exact H) | exact H
      have Ny9060 := mk_ hy183
      clear hy183
      have H' := mk_ H
      clear H
      have hnb2010168173 := NB173_168.out
      have hnc2010168173 := NB168_173.out
      obtain ⟨hcz2010173_0, hcz2010173_1, hcz2010173_2, hcz2010173_3, hfz2010173_0, hfz2010173_1, hfz2010173_2, hfz2010173_3⟩ := cells4_ BK173.out
      obtain ⟨hcz2010168_0, hcz2010168_1, hcz2010168_2, hcz2010168_3, hfz2010168_0, hfz2010168_1, hfz2010168_2, hfz2010168_3⟩ := cells4_ BK168.out
      go_wp2_with (first | ((with_reducible refine gate_builtin (b := .append) (xs := #[.tmp 60, .tmp 62]) rfl ?_); at_builtin; refine Kd.R_append k29 (w0 := w) w.heap.size rfl (.tmp 60) (.tmp 62) 32 29 (.agg #[(.int .i64 0), (.int .i64 0), (.int .i64 0), (.int .i64 0)]) 32 rfl Try.underlying32 info29 rfl (by decide) (by omega) u6 x6_1 (⟨((rd_T29 l0 x8_1).f0), ((rd_T29 l0 x8_1).f1), ((rd_T29 l0 x8_1).f2), ((rd_T29 l0 x8_1).f3)⟩ : S29) [.int .i64 ((rd_T29 l0 x8_1).f0), .int .i64 ((rd_T29 l0 x8_1).f1), .int .i64 ((rd_T29 l0 x8_1).f2), .int .i64 ((rd_T29 l0 x8_1).f3)] (fun k_ => k_ ≠ gb168 ∧ k_ ≠ gb8880) (fun _ => False) rfl rfl ?aP (fun _ hk => hk.elim) ?aF ?aO ?aB ?aS ?aL ?_; (case aP => exact k29_mkM _ _ _ (⟨((rd_T29 l0 x8_1).f0), ((rd_T29 l0 x8_1).f1), ((rd_T29 l0 x8_1).f2), ((rd_T29 l0 x8_1).f3)⟩ : S29)); (case aB => exact (us_ HB.out)); (case aF => exact (fun k_ hk => ⟨Kd.freshB (g := gb168) (o := .cells #[.int .i64 a1_0, .int .i64 a1_1, .int .i64 a1_2, .int .i64 a1_3] 29 (0, 0)) (u_ BK168.out) k_ hk, Kd.freshB (g := gb8880) (o := .cells #[.int .i64 ((rd_T29 l0 x8_1).f0), .int .i64 ((rd_T29 l0 x8_1).f1), .int .i64 ((rd_T29 l0 x8_1).f2), .int .i64 ((rd_T29 l0 x8_1).f3)] 29 (0, 0)) (u_ BK173.out) k_ hk⟩)); (case aO => exact (Kd.ur_ HO_6.out)); (case aS => exact (below_size (us_ HB.out))); (case aL => have := LMc9059.out; omega); intro v9061 w9062 ho hb hg hat; rw [← Ny9060.out] at ho; replace BK168 := mk_ (blk_grown (g := gb168) (o := .cells #[.int .i64 a1_0, .int .i64 a1_1, .int .i64 a1_2, .int .i64 a1_3] 29 (0, 0)) (u_ BK168.out) hg (Kd.R_away HO_6.out (fun _ hk => hk.1))); replace BK173 := mk_ (blk_grown (g := gb8880) (o := .cells #[.int .i64 ((rd_T29 l0 x8_1).f0), .int .i64 ((rd_T29 l0 x8_1).f1), .int .i64 ((rd_T29 l0 x8_1).f2), .int .i64 ((rd_T29 l0 x8_1).f3)] 29 (0, 0)) (u_ BK173.out) hg (Kd.R_away HO_6.out (fun _ hk => hk.2))); replace HB := mk_ (hb); have HO185 := mk_ (ho); clear HO_6; clear ho hb hg hat))
      go_roundg kj7
      case measure => have := HK1.out; have := HJ9040.out; omega
      case rel => exact ⟨(y183), (x7_1), (wrap64 (x8_1 + 1)), (by first | rfl | (simp; done) | (simp [*]; done)), (by first | rfl | (simp; done) | (simp [*]; done)), H', ⟨by have := HK1.out; have := HJ9040.out; omega⟩, ⟨by (with_reducible repeat (first | apply Kd.R_alloc | apply Kd.R_drewN | apply Kd.R_drew)); exact Kd.R_mono HO185.out (fun _ hk => hk.1)⟩, ⟨u_ BK168.out⟩, ⟨us_ HB.out⟩⟩

end Go.Proofs.Ytkkibccnpkbbjab.MFnRouteDrop
