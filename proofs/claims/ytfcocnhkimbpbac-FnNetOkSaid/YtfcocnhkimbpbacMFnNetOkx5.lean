/- Functions that the law FnNetOk reaches, each with the proof that the machine's call comes to just its answer; no conditions but those that each theorem states. Printed by a program of this session over the kit's print. -/
import Derived.Test.YtfcocnhkimbpbacMFnNetOkx0
import Derived.Test.YtfcocnhkimbpbacMFnNetOkx1
namespace Go.Proofs.Ytfcocnhkimbpbac.MFnNetOk
open Go.RowKit Go.Proofs.YtfcocnhkimbpbacV.PrintWords Go.Proofs.YtfcocnhkimbpbacV.PrintLast Go.Proofs.YtfcocnhkimbpbacV.PrintMore
attribute [local go_sem] max2_int min2_int max_two min_two max_three min_three max_four min_four   -- for this text's walks alone
set_option linter.unusedVariables false
set_option linter.unusedSimpArgs false

/-! ### spec_RoutePut: function 76 -/
mutual
def spec_RoutePut.l0 : Nat → List (S118) → List (S118) → Bool → Int → Int → Int → Int → Int → Option ((List (S118)) × Bool)
 | 0, _, _, _, _, _, _, _, _ => none
 | k + 1, x0, x6, x7, x8, x175000, x175001, x175002, x175003 => if x8 < (x0.length : Int) then (if 0 ≤ x8 then (if x7 = true then (spec_RoutePut.j1 k x0 x6 x7 x8 false x175000 x175001 x175002 x175003 ((rd_T118 x0 x8).f0) ((rd_T118 x0 x8).f1) ((rd_T118 x0 x8).f2) ((rd_T118 x0 x8).f3)) else (if x175001 < ((rd_T118 x0 x8).f1) then (spec_RoutePut.j1 k x0 x6 x7 x8 true x175000 x175001 x175002 x175003 ((rd_T118 x0 x8).f0) ((rd_T118 x0 x8).f1) ((rd_T118 x0 x8).f2) ((rd_T118 x0 x8).f3)) else (if x175001 = ((rd_T118 x0 x8).f1) then (spec_RoutePut.j1 k x0 x6 x7 x8 (decide (x175000 ≤ ((rd_T118 x0 x8).f0))) x175000 x175001 x175002 x175003 ((rd_T118 x0 x8).f0) ((rd_T118 x0 x8).f1) ((rd_T118 x0 x8).f2) ((rd_T118 x0 x8).f3)) else (spec_RoutePut.j1 k x0 x6 x7 x8 false x175000 x175001 x175002 x175003 ((rd_T118 x0 x8).f0) ((rd_T118 x0 x8).f1) ((rd_T118 x0 x8).f2) ((rd_T118 x0 x8).f3))))) else (none)) else (if x7 = true then (spec_RoutePut.j2 k x0 x6 x175000 x175001 x175002 x175003) else (if x6.length < 4398046511104 then (spec_RoutePut.j2 k x0 (x6 ++ [(⟨x175000, x175001, x175002, x175003⟩ : S118)]) x175000 x175001 x175002 x175003) else (none)))
def spec_RoutePut.j1 : Nat → List (S118) → List (S118) → Bool → Int → Bool → Int → Int → Int → Int → Int → Int → Int → Int → Option ((List (S118)) × Bool)
 | 0, _, _, _, _, _, _, _, _, _, _, _, _, _ => none
 | k + 1, x0, x6, x7, x8, x43, x175000, x175001, x175002, x175003, x180000, x180001, x180002, x180003 => if x43 = true then (if x6.length < 4398046511104 then ((some (x6 ++ [(⟨x175000, x175001, x175002, x175003⟩ : S118)] : List (S118))).bind fun y180 => (if x180001 = x175001 then (if x180000 = x175000 then (spec_RoutePut.l0 k x0 y180 true (wrap64 (x8 + 1)) x175000 x175001 x175002 x175003) else (if y180.length < 4398046511104 then (spec_RoutePut.l0 k x0 (y180 ++ [(⟨x180000, x180001, x180002, x180003⟩ : S118)]) true (wrap64 (x8 + 1)) x175000 x175001 x175002 x175003) else (none))) else (if y180.length < 4398046511104 then (spec_RoutePut.l0 k x0 (y180 ++ [(⟨x180000, x180001, x180002, x180003⟩ : S118)]) true (wrap64 (x8 + 1)) x175000 x175001 x175002 x175003) else (none)))) else (none)) else (if x180001 = x175001 then (if x180000 = x175000 then (spec_RoutePut.l0 k x0 x6 x7 (wrap64 (x8 + 1)) x175000 x175001 x175002 x175003) else (if x6.length < 4398046511104 then (spec_RoutePut.l0 k x0 (x6 ++ [(⟨x180000, x180001, x180002, x180003⟩ : S118)]) x7 (wrap64 (x8 + 1)) x175000 x175001 x175002 x175003) else (none))) else (if x6.length < 4398046511104 then (spec_RoutePut.l0 k x0 (x6 ++ [(⟨x180000, x180001, x180002, x180003⟩ : S118)]) x7 (wrap64 (x8 + 1)) x175000 x175001 x175002 x175003) else (none)))
def spec_RoutePut.j2 : Nat → List (S118) → List (S118) → Int → Int → Int → Int → Option ((List (S118)) × Bool)
 | 0, _, _, _, _, _, _ => none
 | k + 1, x0, x6, x175000, x175001, x175002, x175003 => (spec_RoutesOk.f k x0).bind fun t198 => (if t198 = true then ((spec_RouteOk.f x175000 x175001 x175002 x175003).bind fun t199 => (if t199 = true then (if (x6.length : Int) > 8 then (some ((([] : List (S118))), false)) else (some (x6, true))) else (some ((([] : List (S118))), false)))) else (some ((([] : List (S118))), false)))
end
def spec_RoutePut.f (k : Nat) (l0 : List (S118)) (a1_0 : Int) (a1_1 : Int) (a1_2 : Int) (a1_3 : Int) : Option ((List (S118)) × Bool) := spec_RoutePut.l0 k l0 (([] : List (S118))) false 0 a1_0 a1_1 a1_2 a1_3
theorem spec_RoutePut.mono_l : ∀ k, (∀ y0 y1 y2 y3 y4 y5 y6 y7, LeO (spec_RoutePut.l0 k y0 y1 y2 y3 y4 y5 y6 y7) (spec_RoutePut.l0 (k + 1) y0 y1 y2 y3 y4 y5 y6 y7)) ∧ (∀ y0 y1 y2 y3 y4 y5 y6 y7 y8 y9 y10 y11 y12, LeO (spec_RoutePut.j1 k y0 y1 y2 y3 y4 y5 y6 y7 y8 y9 y10 y11 y12) (spec_RoutePut.j1 (k + 1) y0 y1 y2 y3 y4 y5 y6 y7 y8 y9 y10 y11 y12)) ∧ (∀ y0 y1 y2 y3 y4 y5, LeO (spec_RoutePut.j2 k y0 y1 y2 y3 y4 y5) (spec_RoutePut.j2 (k + 1) y0 y1 y2 y3 y4 y5))
 | 0 => ⟨fun _ _ _ _ _ _ _ _ r h => by simp [spec_RoutePut.l0] at h, fun _ _ _ _ _ _ _ _ _ _ _ _ _ r h => by simp [spec_RoutePut.j1] at h, fun _ _ _ _ _ _ r h => by simp [spec_RoutePut.j2] at h⟩
 | k + 1 => by
  obtain ⟨ih0, ih1, ih2⟩ := spec_RoutePut.mono_l k
  refine ⟨?_, ?_, ?_⟩
  ·intro y0 y1 y2 y3 y4 y5 y6 y7
   unfold spec_RoutePut.l0
   repeat' first
   | (with_reducible exact ih0 _ _ _ _ _ _ _ _)
   | (with_reducible exact ih1 _ _ _ _ _ _ _ _ _ _ _ _ _)
   | (with_reducible exact ih2 _ _ _ _ _ _)
   | (with_reducible exact spec_RoutesOk.mono _ _)
   | (with_reducible exact LeO.refl _)
   | (with_reducible exact LeO.none _)
   | (with_reducible refine LeO.ite ?_ ?_)
   | (with_reducible refine LeO.bind ?_ (fun _ => ?_))
   | exact ih0 _ _ _ _ _ _ _ _
   | exact ih1 _ _ _ _ _ _ _ _ _ _ _ _ _
   | exact ih2 _ _ _ _ _ _
   | exact spec_RoutesOk.mono _ _
   | exact LeO.none _
   | refine LeO.ite ?_ ?_
   | refine LeO.bind ?_ (fun _ => ?_)
  ·intro y0 y1 y2 y3 y4 y5 y6 y7 y8 y9 y10 y11 y12
   unfold spec_RoutePut.j1
   repeat' first
   | (with_reducible exact ih0 _ _ _ _ _ _ _ _)
   | (with_reducible exact ih1 _ _ _ _ _ _ _ _ _ _ _ _ _)
   | (with_reducible exact ih2 _ _ _ _ _ _)
   | (with_reducible exact spec_RoutesOk.mono _ _)
   | (with_reducible exact LeO.refl _)
   | (with_reducible exact LeO.none _)
   | (with_reducible refine LeO.ite ?_ ?_)
   | (with_reducible refine LeO.bind ?_ (fun _ => ?_))
   | exact ih0 _ _ _ _ _ _ _ _
   | exact ih1 _ _ _ _ _ _ _ _ _ _ _ _ _
   | exact ih2 _ _ _ _ _ _
   | exact spec_RoutesOk.mono _ _
   | exact LeO.none _
   | refine LeO.ite ?_ ?_
   | refine LeO.bind ?_ (fun _ => ?_)
  ·intro y0 y1 y2 y3 y4 y5
   unfold spec_RoutePut.j2
   repeat' first
   | (with_reducible exact ih0 _ _ _ _ _ _ _ _)
   | (with_reducible exact ih1 _ _ _ _ _ _ _ _ _ _ _ _ _)
   | (with_reducible exact ih2 _ _ _ _ _ _)
   | (with_reducible exact spec_RoutesOk.mono _ _)
   | (with_reducible exact LeO.refl _)
   | (with_reducible exact LeO.none _)
   | (with_reducible refine LeO.ite ?_ ?_)
   | (with_reducible refine LeO.bind ?_ (fun _ => ?_))
   | exact ih0 _ _ _ _ _ _ _ _
   | exact ih1 _ _ _ _ _ _ _ _ _ _ _ _ _
   | exact ih2 _ _ _ _ _ _
   | exact spec_RoutesOk.mono _ _
   | exact LeO.none _
   | refine LeO.ite ?_ ?_
   | refine LeO.bind ?_ (fun _ => ?_)
theorem spec_RoutePut.mono : ∀ a0 a1 a2 a3 a4 k, LeO (spec_RoutePut.f k a0 a1 a2 a3 a4) (spec_RoutePut.f (k + 1) a0 a1 a2 a3 a4) := by
 intro a0 a1 a2 a3 a4 k
 obtain ⟨ih0, ih1, ih2⟩ := spec_RoutePut.mono_l k
 unfold spec_RoutePut.f
 repeat' first
   | (with_reducible exact ih0 _ _ _ _ _ _ _ _)
   | (with_reducible exact ih1 _ _ _ _ _ _ _ _ _ _ _ _ _)
   | (with_reducible exact ih2 _ _ _ _ _ _)
   | (with_reducible exact spec_RoutesOk.mono _ _)
   | (with_reducible exact LeO.refl _)
   | (with_reducible exact LeO.none _)
   | (with_reducible refine LeO.ite ?_ ?_)
   | (with_reducible refine LeO.bind ?_ (fun _ => ?_))
   | exact ih0 _ _ _ _ _ _ _ _
   | exact ih1 _ _ _ _ _ _ _ _ _ _ _ _ _
   | exact ih2 _ _ _ _ _ _
   | exact spec_RoutesOk.mono _ _
   | exact LeO.none _
   | refine LeO.ite ?_ ?_
   | refine LeO.bind ?_ (fun _ => ?_)
set_option maxHeartbeats 8000000 in
set_option maxRecDepth 100000 in
theorem spec_RoutePut.calls (k : Nat) (A0 : Option Addr) (c0 : Nat) (l0 : List (S118)) (a1_0 : Int) (a1_1 : Int) (a1_2 : Int) (a1_3 : Int) (r1 : List (S118)) (r2 : Bool) (w : World) (hr0 : Kd.C k118 w A0 l0.length l0) (hc0 : l0.length ≤ c0) (h : spec_RoutePut.f k l0 a1_0 a1_1 a1_2 a1_3 = some (r1, r2)) :
  Calls Try.prog 76 #[.slice A0 l0.length c0, .agg #[.int .i64 a1_0, .int .i64 a1_1, .int .i64 a1_2, .int .i64 a1_3]] w fun e w' => ∃ v0_ : Value, e = .returned (.tuple #[v0_, .bool r2]) ∧ Kd.R k118 118 w' w.heap.size (fun _ => True) v0_ r1 ∧ Below w.heap.size w w' := by
 have hu118 := Try.underlying118
 have HR0 := mk_ hr0
 have HC0 := mk_ hc0
 clear hr0 hc0
 have HB := mk_ (Below.refl w.heap.size w)
 have H : (spec_RoutePut.l0 k l0 (([] : List (S118))) false 0 a1_0 a1_1 a1_2 a1_3) = some (r1, r2) := h
 clear h
 obtain ⟨y175, hy175⟩ : ∃ y_ : List (S118), y_ = (([] : List (S118))) := ⟨_, rfl⟩
 replace H : (spec_RoutePut.l0 k l0 y175 false 0 a1_0 a1_1 a1_2 a1_3) = some (r1, r2) := by first | (rw [hy175]; with_reducible exact H) | (have H2_ := (Option.bind_some _ _).symm.trans H; rw [hy175]; with_reducible exact H2_) | (have H2_ := (Option.bind_some _ _).symm.trans H; with_reducible exact H2_) | with_reducible exact H | (rw [hy175]; exact H) | exact H
 have Ny175 := mk_ hy175
 clear hy175
 have H' := mk_ H
 clear H
 go_enter Try.func76, Try.ntmps76
 go_wp2_with (first | ((with_reducible refine gate_dst (N := 3) rfl ?_); refine box_event ?hg (N := 3) ?hd (cs := #[.int .i64 a1_0, .int .i64 a1_1, .int .i64 a1_2, .int .i64 a1_3]) (t := 118) ?hr ?_; (case hd => rfl); (case hg => rfl); (case hr => first | (go_simp; done) | (go_simp; rfl)); intro gb174 hg w3 hbox hb; have n0_ := mk_ (below_step (ub_ HB.out) hb); have n1_ := mk_ (hbox); have n2_ := mk_ ((by rw [hg]; exact (below_size (ub_ HB.out)) : w.heap.size ≤ gb174)); have n3_ := mk_ ((by rw [hg]; exact (below_size (ub_ HB.out)) : w.heap.size ≤ gb174)); clear HB; have HB := n0_; have BK174 := n1_; have GW174 := n2_; have GE174 := ge_ n3_.out; clear n0_ n1_ n2_ n3_; clear hb hbox hg) | ((with_reducible refine gate_dst (N := 10) rfl ?_); refine Kd.R_lit k118 _ 118 ?hg (N := 10) ?hd (xs := ([] : List (S118))) (inner := []) (ok := fun _ => True) (okp := fun _ => True) ?hr ?hp (fun _ hk => hk) trivial (Below.refl _ _) (Nat.le_refl _) (by simp) ?_; (case hd => rfl); (case hg => rfl); (case hr => first | (go_simp; done) | (go_simp; rfl)); (case hp => exact (Reps.none _ _)); intro v176 w4 ho5 hb hg_ hnew_; clear hg_ hnew_; (first | rw [← Ny175.out] at ho5 | (simp only [Int.reduceToNat] at ho5; rw [← Ny175.out] at ho5)); have n0_ := mk_ (Kd.R_lower (Kd.R_newB ho5 (g := gb174) (o := .cells #[.int .i64 a1_0, .int .i64 a1_1, .int .i64 a1_2, .int .i64 a1_3] 118 (0, 0)) (u_ BK174.out)) (below_size (us_ HB.out))); have n1_ := mk_ (blk_below (u_ BK174.out) hb); have n2_ := mk_ (below_step (us_ HB.out) hb); clear BK174; clear HB; have HO177 := n0_; have BK174 := n1_; have HB := n2_; clear n0_ n1_ n2_; clear hb ho5))
 go_loopg [6, 7, 8] k (fun kq v6 v7 v8 w' => ∃ (x6_1 : List (S118)) (x7_1 : Bool) (x8_1 : Int), v7 = .bool x7_1 ∧ v8 = .int .i64 x8_1 ∧ Aside0 (spec_RoutePut.l0 kq l0 x6_1 x7_1 x8_1 a1_0 a1_1 a1_2 a1_3 = some (r1, r2)) ∧ Aside0 (kq ≤ k) ∧ Aside0 (Kd.R k118 118 w' w.heap.size (fun k_ => k_ ≠ gb174) v6 x6_1) ∧ Aside0 (w'.heap[gb174]? = some (.cells #[.int .i64 a1_0, .int .i64 a1_1, .int .i64 a1_2, .int .i64 a1_3] 118 (0, 0))) ∧ Aside0 (Below w.heap.size w w'))
 case atStart => exact ⟨(y175), (false), (0), (by first | rfl | (simp; done) | (simp [*]; done)), (by first | rfl | (simp; done) | (simp [*]; done)), H', ⟨Nat.le_refl _⟩, ⟨by (with_reducible repeat (first | apply Kd.R_alloc | apply Kd.R_drewN | apply Kd.R_drew)); exact Kd.R_mono HO177.out (fun _ hk => hk.2)⟩, ⟨u_ BK174.out⟩, ⟨us_ HB.out⟩⟩
 case round =>
  clear H'
  try clear p2
  obtain ⟨x6_1, x7_1, x8_1, rfl, rfl, HA, HK1, HO_6, BK174, HB⟩ := hrel
  cases gk with
  | zero => exact absurd HA.out (by simp [spec_RoutePut.l0])
  | succ k1 =>
   have H := HA.out
   clear HA
   simp only [spec_RoutePut.l0] at H
   by_cases c6 : x8_1 < (l0.length : Int)
   rotate_left
   ·rw [if_neg c6] at H
    have c6b0 : decide (x8_1 < (l0.length : Int)) = false := decide_eq_false c6
    clear c6
    have HC62 := mk_ H
    clear H
    go_upto_if 65 with (fail)
    go_cut [6] (fun v6 wc => ∃ (kq : Nat) (x6_61 : List (S118)), Aside0 (spec_RoutePut.j2 kq l0 x6_61 a1_0 a1_1 a1_2 a1_3 = some (r1, r2)) ∧ Aside0 (kq ≤ k1) ∧ Aside0 (Kd.R k118 118 wc w.heap.size (fun k_ => k_ ≠ gb174) v6 x6_61) ∧ Aside0 (wc.heap[gb174]? = some (.cells #[.int .i64 a1_0, .int .i64 a1_1, .int .i64 a1_2, .int .i64 a1_3] 118 (0, 0))) ∧ Aside0 (Below w.heap.size w wc))
    case first =>
     have H := HC62.out
     clear HC62
     by_cases c63 : x7_1 = true
     ·subst c63
      have H1 : (spec_RoutePut.j2 k1 l0 x6_1 a1_0 a1_1 a1_2 a1_3) = some (r1, r2) := by rw [if_pos rfl] at H; exact H
      clear H
      have H := H1
      clear H1
      have H' := mk_ H
      clear H
      go_wp2
      go_meet
      case rel => exact ⟨_, (x6_1), H', ⟨by have := HK1.out; first | omega | exact Nat.le_refl _⟩, ⟨Kd.ur_ HO_6.out⟩, ⟨u_ BK174.out⟩, ⟨us_ HB.out⟩⟩
     replace c63 := Bool.eq_false_iff.mpr c63
     subst c63
     have H1 : (if x6_1.length < 4398046511104 then (spec_RoutePut.j2 k1 l0 (x6_1 ++ [(⟨a1_0, a1_1, a1_2, a1_3⟩ : S118)]) a1_0 a1_1 a1_2 a1_3) else (none)) = some (r1, r2) := by rw [if_neg (show ¬ (false = true) by decide)] at H; exact H
     clear H
     have H := H1
     clear H1
     by_cases c64 : x6_1.length < 4398046511104
     rotate_left
     ·rw [if_neg c64] at H
      exact absurd H (by simp)
     rw [if_pos c64] at H
     have LMc64 := mk_ c64
     clear c64
     obtain ⟨y195, hy195⟩ : ∃ y_ : List (S118), y_ = (x6_1 ++ [(⟨a1_0, a1_1, a1_2, a1_3⟩ : S118)]) := ⟨_, rfl⟩
     replace H : (spec_RoutePut.j2 k1 l0 y195 a1_0 a1_1 a1_2 a1_3) = some (r1, r2) := by first | (rw [hy195]; with_reducible exact H) | (have H2_ := (Option.bind_some _ _).symm.trans H; rw [hy195]; with_reducible exact H2_) | (have H2_ := (Option.bind_some _ _).symm.trans H; with_reducible exact H2_) | with_reducible exact H | (rw [hy195]; exact H) | exact H
     have Ny195 := mk_ hy195
     clear hy195
     have H' := mk_ H
     clear H
     obtain ⟨hcz65_0, hcz65_1, hcz65_2, hcz65_3, hfz65_0, hfz65_1, hfz65_2, hfz65_3⟩ := cells4_ BK174.out
     go_wp2_with (first | ((with_reducible refine gate_builtin (b := .append) (xs := #[.tmp 66, .tmp 68]) rfl ?_); at_builtin; refine Kd.R_append k118 (w0 := w) w.heap.size rfl (.tmp 66) (.tmp 68) 77 118 (.agg #[(.int .i64 0), (.int .i64 0), (.int .i64 0), (.int .i64 0)]) 32 rfl Try.underlying77 info118 rfl (by decide) (by omega) u6 x6_1 (⟨a1_0, a1_1, a1_2, a1_3⟩ : S118) [.int .i64 a1_0, .int .i64 a1_1, .int .i64 a1_2, .int .i64 a1_3] (fun k_ => k_ ≠ gb174) (fun _ => False) rfl rfl ?aP (fun _ hk => hk.elim) ?aF ?aO ?aB ?aS ?aL ?_; (case aP => exact k118_mkM _ _ _ (⟨a1_0, a1_1, a1_2, a1_3⟩ : S118)); (case aB => exact (us_ HB.out)); (case aF => exact (fun k_ hk => Kd.freshB (g := gb174) (o := .cells #[.int .i64 a1_0, .int .i64 a1_1, .int .i64 a1_2, .int .i64 a1_3] 118 (0, 0)) (u_ BK174.out) k_ hk)); (case aO => exact (Kd.ur_ HO_6.out)); (case aS => exact (below_size (us_ HB.out))); (case aL => have := LMc64.out; omega); intro v196 w66 ho hb hg hat; rw [← Ny195.out] at ho; have n0_ := mk_ (blk_grown (g := gb174) (o := .cells #[.int .i64 a1_0, .int .i64 a1_1, .int .i64 a1_2, .int .i64 a1_3] 118 (0, 0)) (u_ BK174.out) hg (Kd.R_away HO_6.out (fun _ hk => hk))); have n1_ := mk_ (hb); have n2_ := mk_ (ho); clear BK174; clear HB; clear HO_6; have BK174 := n0_; have HB := n1_; have HO197 := n2_; clear n0_ n1_ n2_; clear ho hb hg hat))
     go_meet
     case rel => exact ⟨_, (y195), H', ⟨by have := HK1.out; first | omega | exact Nat.le_refl _⟩, ⟨Kd.ur_ HO197.out⟩, ⟨u_ BK174.out⟩, ⟨us_ HB.out⟩⟩
    case rest =>
     clear HC62
     try clear c1
     try clear p1
     try clear q1
     try clear hx1
     try clear c2
     try clear p2
     try clear c3
     try clear c4
     try clear c5
     try clear c6
     try clear c6b0
     try clear p6
     try clear c7
     try clear c7b0
     try clear c10
     try clear c12
     try clear c13
     try clear c13b0
     try clear c14
     try clear c17
     try clear c17b0
     try clear c17b1
     try clear p17
     try clear q17
     try clear hx17
     try clear c18
     try clear c21
     try clear c24
     try clear c25
     try clear c26
     try clear c26b0
     try clear c26b1
     try clear c27
     try clear c27b0
     try clear c27b1
     try clear c28
     try clear c33
     try clear c34
     try clear c40
     try clear c41
     try clear c47
     try clear c47b0
     try clear c47b1
     try clear c48
     try clear c48b0
     try clear c48b1
     try clear c49
     try clear c52
     try clear c53
     try clear c57
     try clear c58
     try clear c63
     try clear c64
     try clear p64
     try clear hcz11_0
     try clear hcz11_1
     try clear hcz11_2
     try clear hcz11_3
     try clear hcz15_0
     try clear hcz15_1
     try clear hcz15_2
     try clear hcz15_3
     try clear hcz16_0
     try clear hcz16_1
     try clear hcz16_2
     try clear hcz16_3
     try clear hcz19_0
     try clear hcz19_1
     try clear hcz19_2
     try clear hcz19_3
     try clear hcz20_0
     try clear hcz20_1
     try clear hcz20_2
     try clear hcz20_3
     try clear hcz22_0
     try clear hcz22_1
     try clear hcz22_2
     try clear hcz22_3
     try clear hcz23_0
     try clear hcz23_1
     try clear hcz23_2
     try clear hcz23_3
     try clear hcz29_0
     try clear hcz29_1
     try clear hcz29_2
     try clear hcz29_3
     try clear hcz31_0
     try clear hcz31_1
     try clear hcz31_2
     try clear hcz31_3
     try clear hcz32_0
     try clear hcz32_1
     try clear hcz32_2
     try clear hcz32_3
     try clear hcz35_0
     try clear hcz35_1
     try clear hcz35_2
     try clear hcz35_3
     try clear hcz37_0
     try clear hcz37_1
     try clear hcz37_2
     try clear hcz37_3
     try clear hcz38_0
     try clear hcz38_1
     try clear hcz38_2
     try clear hcz38_3
     try clear hcz42_0
     try clear hcz42_1
     try clear hcz42_2
     try clear hcz42_3
     try clear hcz44_0
     try clear hcz44_1
     try clear hcz44_2
     try clear hcz44_3
     try clear hcz45_0
     try clear hcz45_1
     try clear hcz45_2
     try clear hcz45_3
     try clear hcz50_0
     try clear hcz50_1
     try clear hcz50_2
     try clear hcz50_3
     try clear hcz51_0
     try clear hcz51_1
     try clear hcz51_2
     try clear hcz51_3
     try clear hcz54_0
     try clear hcz54_1
     try clear hcz54_2
     try clear hcz54_3
     try clear hcz55_0
     try clear hcz55_1
     try clear hcz55_2
     try clear hcz55_3
     try clear hcz59_0
     try clear hcz59_1
     try clear hcz59_2
     try clear hcz59_3
     try clear hcz60_0
     try clear hcz60_1
     try clear hcz60_2
     try clear hcz60_3
     try clear hcz65_0
     try clear hcz65_1
     try clear hcz65_2
     try clear hcz65_3
     try clear hfz11_0
     try clear hfz11_1
     try clear hfz11_2
     try clear hfz11_3
     try clear hfz15_0
     try clear hfz15_1
     try clear hfz15_2
     try clear hfz15_3
     try clear hfz16_0
     try clear hfz16_1
     try clear hfz16_2
     try clear hfz16_3
     try clear hfz19_0
     try clear hfz19_1
     try clear hfz19_2
     try clear hfz19_3
     try clear hfz20_0
     try clear hfz20_1
     try clear hfz20_2
     try clear hfz20_3
     try clear hfz22_0
     try clear hfz22_1
     try clear hfz22_2
     try clear hfz22_3
     try clear hfz23_0
     try clear hfz23_1
     try clear hfz23_2
     try clear hfz23_3
     try clear hfz29_0
     try clear hfz29_1
     try clear hfz29_2
     try clear hfz29_3
     try clear hfz31_0
     try clear hfz31_1
     try clear hfz31_2
     try clear hfz31_3
     try clear hfz32_0
     try clear hfz32_1
     try clear hfz32_2
     try clear hfz32_3
     try clear hfz35_0
     try clear hfz35_1
     try clear hfz35_2
     try clear hfz35_3
     try clear hfz37_0
     try clear hfz37_1
     try clear hfz37_2
     try clear hfz37_3
     try clear hfz38_0
     try clear hfz38_1
     try clear hfz38_2
     try clear hfz38_3
     try clear hfz42_0
     try clear hfz42_1
     try clear hfz42_2
     try clear hfz42_3
     try clear hfz44_0
     try clear hfz44_1
     try clear hfz44_2
     try clear hfz44_3
     try clear hfz45_0
     try clear hfz45_1
     try clear hfz45_2
     try clear hfz45_3
     try clear hfz50_0
     try clear hfz50_1
     try clear hfz50_2
     try clear hfz50_3
     try clear hfz51_0
     try clear hfz51_1
     try clear hfz51_2
     try clear hfz51_3
     try clear hfz54_0
     try clear hfz54_1
     try clear hfz54_2
     try clear hfz54_3
     try clear hfz55_0
     try clear hfz55_1
     try clear hfz55_2
     try clear hfz55_3
     try clear hfz59_0
     try clear hfz59_1
     try clear hfz59_2
     try clear hfz59_3
     try clear hfz60_0
     try clear hfz60_1
     try clear hfz60_2
     try clear hfz60_3
     try clear hfz65_0
     try clear hfz65_1
     try clear hfz65_2
     try clear hfz65_3
     try clear hx178_0
     try clear hx178_1
     try clear hx178_2
     try clear hx178_3
     try clear p1
     try clear p17
     try clear p178
     try clear p2
     try clear q1
     try clear q17
     try clear q178
     obtain ⟨kq, x6_61, HA, HJ61, HO_6, BK174, HB⟩ := hcut
     cases kq with
     | zero => exact absurd HA.out (by simp [spec_RoutePut.j2])
     | succ kj61 =>
      have H := HA.out
      clear HA
      simp only [spec_RoutePut.j2] at H
      replace H := Option.bind_eq_some_iff.mp H
      obtain ⟨t198, A670, H⟩ := H
      replace H : (if t198 = true then ((spec_RouteOk.f a1_0 a1_1 a1_2 a1_3).bind fun t199 => (if t199 = true then (if (x6_61.length : Int) > 8 then (some ((([] : List (S118))), false)) else (some (x6_61, true))) else (some ((([] : List (S118))), false)))) else (some ((([] : List (S118))), false))) = some (r1, r2) := H
      have A67 := mk_ A670
      clear A670
      by_cases c68 : t198 = true
      rotate_left
      ·replace c68 := Bool.eq_false_iff.mpr c68
       subst c68
       have H1 : (some ((([] : List (S118))), false)) = some (r1, r2) := by rw [if_neg (show ¬ (false = true) by decide)] at H; exact H
       clear H
       have H := H1
       clear H1
       obtain ⟨y206, hy206⟩ : ∃ y_ : List (S118), y_ = (([] : List (S118))) := ⟨_, rfl⟩
       replace H : (some (y206, false)) = some (r1, r2) := by first | (rw [hy206]; with_reducible exact H) | (have H2_ := (Option.bind_some _ _).symm.trans H; rw [hy206]; with_reducible exact H2_) | (have H2_ := (Option.bind_some _ _).symm.trans H; with_reducible exact H2_) | with_reducible exact H | (rw [hy206]; exact H) | exact H
       have Ny206 := mk_ hy206
       clear hy206
       simp only [Option.some.injEq, Prod.mk.injEq] at H
       obtain ⟨rfl, rfl⟩ := H
       go_wp2_with (first | ((with_reducible refine gate_callee (f := 70) rfl ?_); refine goesL_ (some 71) rfl rfl Try.func70 (by kernel_rfl) rfl #[.slice A0 l0.length c0] rfl (by (try simp only [lm_, lo_, ln_]); first | done | rfl | (simp only [List.length_drop, List.length_take]; rfl)) ?_; (with_reducible refine (spec_RoutesOk.calls kj61 _ _ l0 false _ ?side1 ?side2 A67.out).mono ?_); (case side1 => repeat (first | exact (Kd.C_below HR0.out HB.out) | (with_reducible refine Kd.C_alloc ?_ _) | (with_reducible refine Kd.C_drewN ?_ _) | (with_reducible refine Kd.C_drew ?_))); (case side2 => exact HC0.out); rintro e w87 ⟨rfl, hb⟩; refine ⟨_, rfl, ?_⟩; have n0_ := mk_ (Kd.R_below (Kd.ur_ HO_6.out) hb); have n1_ := mk_ (blk_below (u_ BK174.out) hb); have n2_ := mk_ (below_step (us_ HB.out) hb); clear HO_6; clear BK174; clear HB; have HO_6 := n0_; have BK174 := n1_; have HB := n2_; clear n0_ n1_ n2_; (try clear hb); (try clear hb2); (try clear hk); (try clear hi)) | ((with_reducible refine gate_dst (N := 83) rfl ?_); refine Kd.R_lit k118 _ 118 ?hg (N := 83) ?hd (xs := ([] : List (S118))) (inner := []) (ok := fun _ => True) (okp := fun _ => True) ?hr ?hp (fun _ hk => hk) trivial (Below.refl _ _) (Nat.le_refl _) (by simp) ?_; (case hd => rfl); (case hg => rfl); (case hr => first | (go_simp; done) | (go_simp; rfl)); (case hp => exact (Reps.none _ _)); intro v207 w88 ho89 hb hg_ hnew_; clear hg_ hnew_; (first | rw [← Ny206.out] at ho89 | (simp only [Int.reduceToNat] at ho89; rw [← Ny206.out] at ho89)); have n0_ := mk_ (Kd.R_elder' (Kd.ur_ HO_6.out) (Kd.R_base ho89) hb); have n1_ := mk_ (Kd.R_lower (Kd.R_newB (Kd.R_new' ho89 (Kd.R_lt (Kd.ur_ HO_6.out))) (g := gb174) (o := .cells #[.int .i64 a1_0, .int .i64 a1_1, .int .i64 a1_2, .int .i64 a1_3] 118 (0, 0)) (u_ BK174.out)) (below_size (us_ HB.out))); have n2_ := mk_ (blk_below (u_ BK174.out) hb); have n3_ := mk_ (below_step (us_ HB.out) hb); clear HO_6; clear BK174; clear HB; have HO_6 := n0_; have HO208 := n1_; have BK174 := n2_; have HB := n3_; clear n0_ n1_ n2_ n3_; clear hb ho89))
       go_ret2
       exact ⟨_, by first | rfl | (simp [errW_none, errW_some] <;> rfl) | (simp [*, errW_none, errW_some] <;> rfl), by (with_reducible repeat (first | apply Kd.R_alloc | apply Kd.R_drewN | apply Kd.R_drew)); exact Kd.R_mono HO208.out (fun _ hk => trivial), us_ HB.out⟩
      subst c68
      have H1 : ((spec_RouteOk.f a1_0 a1_1 a1_2 a1_3).bind fun t199 => (if t199 = true then (if (x6_61.length : Int) > 8 then (some ((([] : List (S118))), false)) else (some (x6_61, true))) else (some ((([] : List (S118))), false)))) = some (r1, r2) := by rw [if_pos rfl] at H; exact H
      clear H
      have H := H1
      clear H1
      replace H := Option.bind_eq_some_iff.mp H
      obtain ⟨t199, A690, H⟩ := H
      replace H : (if t199 = true then (if (x6_61.length : Int) > 8 then (some ((([] : List (S118))), false)) else (some (x6_61, true))) else (some ((([] : List (S118))), false))) = some (r1, r2) := H
      have A69 := mk_ A690
      clear A690
      by_cases c70 : t199 = true
      rotate_left
      ·replace c70 := Bool.eq_false_iff.mpr c70
       subst c70
       have H1 : (some ((([] : List (S118))), false)) = some (r1, r2) := by rw [if_neg (show ¬ (false = true) by decide)] at H; exact H
       clear H
       have H := H1
       clear H1
       obtain ⟨y203, hy203⟩ : ∃ y_ : List (S118), y_ = (([] : List (S118))) := ⟨_, rfl⟩
       replace H : (some (y203, false)) = some (r1, r2) := by first | (rw [hy203]; with_reducible exact H) | (have H2_ := (Option.bind_some _ _).symm.trans H; rw [hy203]; with_reducible exact H2_) | (have H2_ := (Option.bind_some _ _).symm.trans H; with_reducible exact H2_) | with_reducible exact H | (rw [hy203]; exact H) | exact H
       have Ny203 := mk_ hy203
       clear hy203
       simp only [Option.some.injEq, Prod.mk.injEq] at H
       obtain ⟨rfl, rfl⟩ := H
       go_wp2_with (first | ((with_reducible refine gate_callee (f := 70) rfl ?_); refine goesL_ (some 71) rfl rfl Try.func70 (by kernel_rfl) rfl #[.slice A0 l0.length c0] rfl (by (try simp only [lm_, lo_, ln_]); first | done | rfl | (simp only [List.length_drop, List.length_take]; rfl)) ?_; (with_reducible refine (spec_RoutesOk.calls kj61 _ _ l0 true _ ?side1 ?side2 A67.out).mono ?_); (case side1 => repeat (first | exact (Kd.C_below HR0.out HB.out) | (with_reducible refine Kd.C_alloc ?_ _) | (with_reducible refine Kd.C_drewN ?_ _) | (with_reducible refine Kd.C_drew ?_))); (case side2 => exact HC0.out); rintro e w82 ⟨rfl, hb⟩; refine ⟨_, rfl, ?_⟩; have n0_ := mk_ (Kd.R_below (Kd.ur_ HO_6.out) hb); have n1_ := mk_ (blk_below (u_ BK174.out) hb); have n2_ := mk_ (below_step (us_ HB.out) hb); clear HO_6; clear BK174; clear HB; have HO_6 := n0_; have BK174 := n1_; have HB := n2_; clear n0_ n1_ n2_; (try clear hb); (try clear hb2); (try clear hk); (try clear hi); obtain ⟨hcz83_0, hcz83_1, hcz83_2, hcz83_3, hfz83_0, hfz83_1, hfz83_2, hfz83_3⟩ := cells4_ BK174.out) | (go_at_call 91; (with_reducible refine (spec_RouteOk.calls a1_0 a1_1 a1_2 a1_3 false _ A69.out).mono ?_); rintro e w84 ⟨rfl, hb⟩; have n0_ := mk_ (Kd.R_below (Kd.ur_ HO_6.out) hb); have n1_ := mk_ (blk_below (u_ BK174.out) hb); have n2_ := mk_ (below_step (us_ HB.out) hb); clear HO_6; clear BK174; clear HB; have HO_6 := n0_; have BK174 := n1_; have HB := n2_; clear n0_ n1_ n2_; (try clear hb); (try clear hb2); (try clear hk); (try clear hi)) | ((with_reducible refine gate_dst (N := 83) rfl ?_); refine Kd.R_lit k118 _ 118 ?hg (N := 83) ?hd (xs := ([] : List (S118))) (inner := []) (ok := fun _ => True) (okp := fun _ => True) ?hr ?hp (fun _ hk => hk) trivial (Below.refl _ _) (Nat.le_refl _) (by simp) ?_; (case hd => rfl); (case hg => rfl); (case hr => first | (go_simp; done) | (go_simp; rfl)); (case hp => exact (Reps.none _ _)); intro v204 w85 ho86 hb hg_ hnew_; clear hg_ hnew_; (first | rw [← Ny203.out] at ho86 | (simp only [Int.reduceToNat] at ho86; rw [← Ny203.out] at ho86)); have n0_ := mk_ (Kd.R_elder' (Kd.ur_ HO_6.out) (Kd.R_base ho86) hb); have n1_ := mk_ (Kd.R_lower (Kd.R_newB (Kd.R_new' ho86 (Kd.R_lt (Kd.ur_ HO_6.out))) (g := gb174) (o := .cells #[.int .i64 a1_0, .int .i64 a1_1, .int .i64 a1_2, .int .i64 a1_3] 118 (0, 0)) (u_ BK174.out)) (below_size (us_ HB.out))); have n2_ := mk_ (blk_below (u_ BK174.out) hb); have n3_ := mk_ (below_step (us_ HB.out) hb); clear HO_6; clear BK174; clear HB; have HO_6 := n0_; have HO205 := n1_; have BK174 := n2_; have HB := n3_; clear n0_ n1_ n2_ n3_; clear hb ho86))
       go_ret2
       exact ⟨_, by first | rfl | (simp [errW_none, errW_some] <;> rfl) | (simp [*, errW_none, errW_some] <;> rfl), by (with_reducible repeat (first | apply Kd.R_alloc | apply Kd.R_drewN | apply Kd.R_drew)); exact Kd.R_mono HO205.out (fun _ hk => trivial), us_ HB.out⟩
      subst c70
      have H1 : (if (x6_61.length : Int) > 8 then (some ((([] : List (S118))), false)) else (some (x6_61, true))) = some (r1, r2) := by rw [if_pos rfl] at H; exact H
      clear H
      have H := H1
      clear H1
      by_cases c71 : (x6_61.length : Int) > 8
      rotate_left
      ·rw [if_neg c71] at H
       have c71b0 : decide (8 < (x6_61.length : Int)) = false := decide_eq_false c71
       have c71b1 : decide (8 < x6_61.length) = false := decide_eq_false (by omega)
       clear c71
       simp only [Option.some.injEq, Prod.mk.injEq] at H
       obtain ⟨rfl, rfl⟩ := H
       go_wp2_with (first | ((with_reducible refine gate_callee (f := 70) rfl ?_); refine goesL_ (some 71) rfl rfl Try.func70 (by kernel_rfl) rfl #[.slice A0 l0.length c0] rfl (by (try simp only [lm_, lo_, ln_]); first | done | rfl | (simp only [List.length_drop, List.length_take]; rfl)) ?_; (with_reducible refine (spec_RoutesOk.calls kj61 _ _ l0 true _ ?side1 ?side2 A67.out).mono ?_); (case side1 => repeat (first | exact (Kd.C_below HR0.out HB.out) | (with_reducible refine Kd.C_alloc ?_ _) | (with_reducible refine Kd.C_drewN ?_ _) | (with_reducible refine Kd.C_drew ?_))); (case side2 => exact HC0.out); rintro e w78 ⟨rfl, hb⟩; refine ⟨_, rfl, ?_⟩; have n0_ := mk_ (Kd.R_below (Kd.ur_ HO_6.out) hb); have n1_ := mk_ (blk_below (u_ BK174.out) hb); have n2_ := mk_ (below_step (us_ HB.out) hb); clear HO_6; clear BK174; clear HB; have HO_6 := n0_; have BK174 := n1_; have HB := n2_; clear n0_ n1_ n2_; (try clear hb); (try clear hb2); (try clear hk); (try clear hi); obtain ⟨hcz79_0, hcz79_1, hcz79_2, hcz79_3, hfz79_0, hfz79_1, hfz79_2, hfz79_3⟩ := cells4_ BK174.out) | (go_at_call 91; (with_reducible refine (spec_RouteOk.calls a1_0 a1_1 a1_2 a1_3 true _ A69.out).mono ?_); rintro e w80 ⟨rfl, hb⟩; have n0_ := mk_ (Kd.R_below (Kd.ur_ HO_6.out) hb); have n1_ := mk_ (blk_below (u_ BK174.out) hb); have n2_ := mk_ (below_step (us_ HB.out) hb); clear HO_6; clear BK174; clear HB; have HO_6 := n0_; have BK174 := n1_; have HB := n2_; clear n0_ n1_ n2_; (try clear hb); (try clear hb2); (try clear hk); (try clear hi); obtain ⟨Ao81, co81, eo81⟩ := Kd.R_slice HO_6.out; subst eo81))
       go_ret2
       exact ⟨_, by first | rfl | (simp [errW_none, errW_some] <;> rfl) | (simp [*, errW_none, errW_some] <;> rfl), by (with_reducible repeat (first | apply Kd.R_alloc | apply Kd.R_drewN | apply Kd.R_drew)); exact Kd.R_mono HO_6.out (fun _ hk => trivial), us_ HB.out⟩
      rw [if_pos c71] at H
      have c71b0 : decide (8 < (x6_61.length : Int)) = true := decide_eq_true c71
      have c71b1 : decide (8 < x6_61.length) = true := decide_eq_true (by omega)
      clear c71
      obtain ⟨y200, hy200⟩ : ∃ y_ : List (S118), y_ = (([] : List (S118))) := ⟨_, rfl⟩
      replace H : (some (y200, false)) = some (r1, r2) := by first | (rw [hy200]; with_reducible exact H) | (have H2_ := (Option.bind_some _ _).symm.trans H; rw [hy200]; with_reducible exact H2_) | (have H2_ := (Option.bind_some _ _).symm.trans H; with_reducible exact H2_) | with_reducible exact H | (rw [hy200]; exact H) | exact H
      have Ny200 := mk_ hy200
      clear hy200
      simp only [Option.some.injEq, Prod.mk.injEq] at H
      obtain ⟨rfl, rfl⟩ := H
      go_wp2_with (first | ((with_reducible refine gate_callee (f := 70) rfl ?_); refine goesL_ (some 71) rfl rfl Try.func70 (by kernel_rfl) rfl #[.slice A0 l0.length c0] rfl (by (try simp only [lm_, lo_, ln_]); first | done | rfl | (simp only [List.length_drop, List.length_take]; rfl)) ?_; (with_reducible refine (spec_RoutesOk.calls kj61 _ _ l0 true _ ?side1 ?side2 A67.out).mono ?_); (case side1 => repeat (first | exact (Kd.C_below HR0.out HB.out) | (with_reducible refine Kd.C_alloc ?_ _) | (with_reducible refine Kd.C_drewN ?_ _) | (with_reducible refine Kd.C_drew ?_))); (case side2 => exact HC0.out); rintro e w72 ⟨rfl, hb⟩; refine ⟨_, rfl, ?_⟩; have n0_ := mk_ (Kd.R_below (Kd.ur_ HO_6.out) hb); have n1_ := mk_ (blk_below (u_ BK174.out) hb); have n2_ := mk_ (below_step (us_ HB.out) hb); clear HO_6; clear BK174; clear HB; have HO_6 := n0_; have BK174 := n1_; have HB := n2_; clear n0_ n1_ n2_; (try clear hb); (try clear hb2); (try clear hk); (try clear hi); obtain ⟨hcz73_0, hcz73_1, hcz73_2, hcz73_3, hfz73_0, hfz73_1, hfz73_2, hfz73_3⟩ := cells4_ BK174.out) | (go_at_call 91; (with_reducible refine (spec_RouteOk.calls a1_0 a1_1 a1_2 a1_3 true _ A69.out).mono ?_); rintro e w74 ⟨rfl, hb⟩; have n0_ := mk_ (Kd.R_below (Kd.ur_ HO_6.out) hb); have n1_ := mk_ (blk_below (u_ BK174.out) hb); have n2_ := mk_ (below_step (us_ HB.out) hb); clear HO_6; clear BK174; clear HB; have HO_6 := n0_; have BK174 := n1_; have HB := n2_; clear n0_ n1_ n2_; (try clear hb); (try clear hb2); (try clear hk); (try clear hi); obtain ⟨Ao75, co75, eo75⟩ := Kd.R_slice HO_6.out; subst eo75) | ((with_reducible refine gate_dst (N := 83) rfl ?_); refine Kd.R_lit k118 _ 118 ?hg (N := 83) ?hd (xs := ([] : List (S118))) (inner := []) (ok := fun _ => True) (okp := fun _ => True) ?hr ?hp (fun _ hk => hk) trivial (Below.refl _ _) (Nat.le_refl _) (by simp) ?_; (case hd => rfl); (case hg => rfl); (case hr => first | (go_simp; done) | (go_simp; rfl)); (case hp => exact (Reps.none _ _)); intro v201 w76 ho77 hb hg_ hnew_; clear hg_ hnew_; (first | rw [← Ny200.out] at ho77 | (simp only [Int.reduceToNat] at ho77; rw [← Ny200.out] at ho77)); have n0_ := mk_ (Kd.R_elder' (Kd.ur_ HO_6.out) (Kd.R_base ho77) hb); have n1_ := mk_ (Kd.R_lower (Kd.R_newB (Kd.R_new' ho77 (Kd.R_lt (Kd.ur_ HO_6.out))) (g := gb174) (o := .cells #[.int .i64 a1_0, .int .i64 a1_1, .int .i64 a1_2, .int .i64 a1_3] 118 (0, 0)) (u_ BK174.out)) (below_size (us_ HB.out))); have n2_ := mk_ (blk_below (u_ BK174.out) hb); have n3_ := mk_ (below_step (us_ HB.out) hb); clear HO_6; clear BK174; clear HB; have HO_6 := n0_; have HO202 := n1_; have BK174 := n2_; have HB := n3_; clear n0_ n1_ n2_ n3_; clear hb ho77))
      go_ret2
      exact ⟨_, by first | rfl | (simp [errW_none, errW_some] <;> rfl) | (simp [*, errW_none, errW_some] <;> rfl), by (with_reducible repeat (first | apply Kd.R_alloc | apply Kd.R_drewN | apply Kd.R_drew)); exact Kd.R_mono HO202.out (fun _ hk => trivial), us_ HB.out⟩
   rw [if_pos c6] at H
   have c6b0 : decide (x8_1 < (l0.length : Int)) = true := decide_eq_true c6
   clear c6
   by_cases c7 : 0 ≤ x8_1
   rotate_left
   ·rw [if_neg c7] at H
    exact absurd H (by simp)
   rw [if_pos c7] at H
   have c7b0 : decide (0 ≤ x8_1) = true := decide_eq_true c7
   clear c7
   have HC8 := mk_ H
   clear H
   have p178 : 0 ≤ (x8_1 : Int) := of_decide_eq_true (by first | (with_reducible assumption) | assumption)
   have q178 : x8_1 < (l0.length : Int) := of_decide_eq_true (by first | (with_reducible assumption) | assumption)
   obtain ⟨ad178, e178, hx178_0, hx178_1, hx178_2, hx178_3⟩ := at_T118 HR0.out x8_1 p178 q178
   cases e178
   replace hx178_0 := (HB.out.cell (lc_ w _ hx178_0)).trans hx178_0
   replace hx178_1 := (HB.out.cell (lc_ w _ hx178_1)).trans hx178_1
   replace hx178_2 := (HB.out.cell (lc_ w _ hx178_2)).trans hx178_2
   replace hx178_3 := (HB.out.cell (lc_ w _ hx178_3)).trans hx178_3
   replace p178 := eq_true p178
   replace q178 := eq_true q178
   go_upto_region 7 with (first | ((with_reducible refine gate_dst (N := 9) rfl ?_); refine box_event ?hg (N := 9) ?hd (cs := #[.int .i64 0, .int .i64 0, .int .i64 0, .int .i64 0]) (t := 118) ?hr ?_; (case hd => rfl); (case hg => rfl); (case hr => first | (go_simp; done) | (go_simp; rfl)); intro gb179 hg w9 hbox hb; have n0_ := mk_ (Kd.R_below (Kd.R_elderB (Kd.ur_ HO_6.out) gb179 (Nat.le_of_eq hg.symm)) hb); have n1_ := mk_ (blk_below (u_ BK174.out) hb); have n2_ := mk_ (below_step (us_ HB.out) hb); have n3_ := mk_ (hbox); have n4_ := mk_ ((by rw [hg]; exact (below_size (us_ HB.out)) : w.heap.size ≤ gb179)); have n5_ := mk_ ((by rw [hg]; exact (below_size (us_ HB.out)) : w.heap.size ≤ gb179)); have n6_ := mk_ ((by rw [hg]; exact Nat.ne_of_lt (blk_lt (u_ BK174.out)) : gb174 ≠ gb179)); have n7_ := mk_ ((by rw [hg]; exact Nat.ne_of_gt (blk_lt (u_ BK174.out)) : gb179 ≠ gb174)); clear HO_6; clear BK174; clear HB; have HO_6 := n0_; have BK174 := n1_; have HB := n2_; have BK179 := n3_; have GW179 := n4_; have GE179 := ge_ n5_.out; have NB174_179 := nq_ n6_.out; have NB179_174 := nq_ n7_.out; clear n0_ n1_ n2_ n3_ n4_ n5_ n6_ n7_; clear hb hbox hg; have hnb10 := NB179_174.out; have hnc10 := NB174_179.out; obtain ⟨hcz11_0, hcz11_1, hcz11_2, hcz11_3, hfz11_0, hfz11_1, hfz11_2, hfz11_3⟩ := cells4_ BK179.out))
   (try simp only [Act.put, la_, lz_, ls_])
   go_cut [43] (fun v43 wc => ∃ (kq : Nat) (x43_7 : Bool), v43 = .bool x43_7 ∧ Aside0 (spec_RoutePut.j1 kq l0 x6_1 x7_1 x8_1 x43_7 a1_0 a1_1 a1_2 a1_3 ((rd_T118 l0 x8_1).f0) ((rd_T118 l0 x8_1).f1) ((rd_T118 l0 x8_1).f2) ((rd_T118 l0 x8_1).f3) = some (r1, r2)) ∧ Aside0 (kq ≤ k1) ∧ Aside0 (Kd.R k118 118 wc w.heap.size (fun k_ => k_ ≠ gb174 ∧ k_ ≠ gb179) u6 x6_1) ∧ Aside0 (wc.heap[gb174]? = some (.cells #[.int .i64 a1_0, .int .i64 a1_1, .int .i64 a1_2, .int .i64 a1_3] 118 (0, 0))) ∧ Aside0 (wc.heap[gb179]? = some (.cells #[.int .i64 ((rd_T118 l0 x8_1).f0), .int .i64 ((rd_T118 l0 x8_1).f1), .int .i64 ((rd_T118 l0 x8_1).f2), .int .i64 ((rd_T118 l0 x8_1).f3)] 118 (0, 0))) ∧ Aside0 (Below w.heap.size w wc))
   case first =>
    have H := HC8.out
    clear HC8
    by_cases c12 : x7_1 = true
    ·subst c12
     have H1 : (spec_RoutePut.j1 k1 l0 x6_1 true x8_1 false a1_0 a1_1 a1_2 a1_3 ((rd_T118 l0 x8_1).f0) ((rd_T118 l0 x8_1).f1) ((rd_T118 l0 x8_1).f2) ((rd_T118 l0 x8_1).f3)) = some (r1, r2) := by rw [if_pos rfl] at H; exact H
     clear H
     have H := H1
     clear H1
     have H' := mk_ H
     clear H
     go_wp2
     go_meet
     case rel => exact ⟨_, (false), (by first | rfl | (simp; done) | (simp [*]; done)), H', ⟨by have := HK1.out; first | omega | exact Nat.le_refl _⟩, ⟨by (with_reducible repeat (first | apply Kd.R_alloc | apply Kd.R_drewN | apply Kd.R_drew)); exact Kd.R_mono (Kd.R_far (p := ⟨gb179, 3, none⟩) (Kd.R_far (p := ⟨gb179, 2, none⟩) (Kd.R_far (p := ⟨gb179, 1, none⟩) (Kd.R_far (p := ⟨gb179, 0, none⟩) (Kd.R_mono HO_6.out (fun k_ hk => (⟨hk, hk.2⟩ : _ ∧ k_ ≠ gb179))) (fun _ hk => hk.2) (.int .i64 ((rd_T118 l0 x8_1).f0))) (fun _ hk => hk.2) (.int .i64 ((rd_T118 l0 x8_1).f1))) (fun _ hk => hk.2) (.int .i64 ((rd_T118 l0 x8_1).f2))) (fun _ hk => hk.2) (.int .i64 ((rd_T118 l0 x8_1).f3))) (fun _ hk => by first | exact ⟨hk.1.1, hk.1.2⟩ | exact hk.1 | exact hk | exact ⟨hk.1, hk.2⟩ | exact ⟨.inr hk.1, hk.2⟩ | simp only [hk, ne_eq, not_false_eq_true, and_self])⟩, ⟨uf_ BK174.out⟩, ⟨by (with_reducible repeat (first | refine bn_ ?_ _ | refine bw_ ?_ | refine ba_ ?_ _)); refine blk_put (cs := #[.int .i64 ((rd_T118 l0 x8_1).f0), .int .i64 ((rd_T118 l0 x8_1).f1), .int .i64 ((rd_T118 l0 x8_1).f2), .int .i64 0]) ?_ 3 _ rfl; (with_reducible repeat (first | refine bn_ ?_ _ | refine bw_ ?_ | refine ba_ ?_ _)); refine blk_put (cs := #[.int .i64 ((rd_T118 l0 x8_1).f0), .int .i64 ((rd_T118 l0 x8_1).f1), .int .i64 0, .int .i64 0]) ?_ 2 _ rfl; (with_reducible repeat (first | refine bn_ ?_ _ | refine bw_ ?_ | refine ba_ ?_ _)); refine blk_put (cs := #[.int .i64 ((rd_T118 l0 x8_1).f0), .int .i64 0, .int .i64 0, .int .i64 0]) ?_ 1 _ rfl; (with_reducible repeat (first | refine bn_ ?_ _ | refine bw_ ?_ | refine ba_ ?_ _)); refine blk_put (cs := #[.int .i64 0, .int .i64 0, .int .i64 0, .int .i64 0]) ?_ 0 _ rfl; (with_reducible repeat (first | refine bn_ ?_ _ | refine bw_ ?_ | refine ba_ ?_ _)); exact BK179.out⟩, ⟨us_ HB.out⟩⟩
    replace c12 := Bool.eq_false_iff.mpr c12
    subst c12
    have H1 : (if a1_1 < ((rd_T118 l0 x8_1).f1) then (spec_RoutePut.j1 k1 l0 x6_1 false x8_1 true a1_0 a1_1 a1_2 a1_3 ((rd_T118 l0 x8_1).f0) ((rd_T118 l0 x8_1).f1) ((rd_T118 l0 x8_1).f2) ((rd_T118 l0 x8_1).f3)) else (if a1_1 = ((rd_T118 l0 x8_1).f1) then (spec_RoutePut.j1 k1 l0 x6_1 false x8_1 (decide (a1_0 ≤ ((rd_T118 l0 x8_1).f0))) a1_0 a1_1 a1_2 a1_3 ((rd_T118 l0 x8_1).f0) ((rd_T118 l0 x8_1).f1) ((rd_T118 l0 x8_1).f2) ((rd_T118 l0 x8_1).f3)) else (spec_RoutePut.j1 k1 l0 x6_1 false x8_1 false a1_0 a1_1 a1_2 a1_3 ((rd_T118 l0 x8_1).f0) ((rd_T118 l0 x8_1).f1) ((rd_T118 l0 x8_1).f2) ((rd_T118 l0 x8_1).f3)))) = some (r1, r2) := by rw [if_neg (show ¬ (false = true) by decide)] at H; exact H
    clear H
    have H := H1
    clear H1
    by_cases c13 : a1_1 < ((rd_T118 l0 x8_1).f1)
    ·rw [if_pos c13] at H
     have c13b0 : decide (a1_1 < ((rd_T118 l0 x8_1).f1)) = true := decide_eq_true c13
     clear c13
     (first | rw [c13b0] | (simp only [i64_w, i32_w]; rw [c13b0]) | skip)
     have H' := mk_ H
     clear H
     have hnb14 := NB174_179.out
     have hnc14 := NB179_174.out
     obtain ⟨hcz15_0, hcz15_1, hcz15_2, hcz15_3, hfz15_0, hfz15_1, hfz15_2, hfz15_3⟩ := cells4_ BK174.out
     obtain ⟨hcz16_0, hcz16_1, hcz16_2, hcz16_3, hfz16_0, hfz16_1, hfz16_2, hfz16_3⟩ := cells4_ BK179.out
     go_wp2
     go_meet
     case rel => exact ⟨_, (true), (by first | rfl | (simp; done) | (simp [*]; done)), H', ⟨by have := HK1.out; first | omega | exact Nat.le_refl _⟩, ⟨by (with_reducible repeat (first | apply Kd.R_alloc | apply Kd.R_drewN | apply Kd.R_drew)); exact Kd.R_mono (Kd.R_far (p := ⟨gb179, 3, none⟩) (Kd.R_far (p := ⟨gb179, 2, none⟩) (Kd.R_far (p := ⟨gb179, 1, none⟩) (Kd.R_far (p := ⟨gb179, 0, none⟩) (Kd.R_mono HO_6.out (fun k_ hk => (⟨hk, hk.2⟩ : _ ∧ k_ ≠ gb179))) (fun _ hk => hk.2) (.int .i64 ((rd_T118 l0 x8_1).f0))) (fun _ hk => hk.2) (.int .i64 ((rd_T118 l0 x8_1).f1))) (fun _ hk => hk.2) (.int .i64 ((rd_T118 l0 x8_1).f2))) (fun _ hk => hk.2) (.int .i64 ((rd_T118 l0 x8_1).f3))) (fun _ hk => by first | exact ⟨hk.1.1, hk.1.2⟩ | exact hk.1 | exact hk | exact ⟨hk.1, hk.2⟩ | exact ⟨.inr hk.1, hk.2⟩ | simp only [hk, ne_eq, not_false_eq_true, and_self])⟩, ⟨uf_ BK174.out⟩, ⟨by (with_reducible repeat (first | refine bn_ ?_ _ | refine bw_ ?_ | refine ba_ ?_ _)); refine blk_put (cs := #[.int .i64 ((rd_T118 l0 x8_1).f0), .int .i64 ((rd_T118 l0 x8_1).f1), .int .i64 ((rd_T118 l0 x8_1).f2), .int .i64 0]) ?_ 3 _ rfl; (with_reducible repeat (first | refine bn_ ?_ _ | refine bw_ ?_ | refine ba_ ?_ _)); refine blk_put (cs := #[.int .i64 ((rd_T118 l0 x8_1).f0), .int .i64 ((rd_T118 l0 x8_1).f1), .int .i64 0, .int .i64 0]) ?_ 2 _ rfl; (with_reducible repeat (first | refine bn_ ?_ _ | refine bw_ ?_ | refine ba_ ?_ _)); refine blk_put (cs := #[.int .i64 ((rd_T118 l0 x8_1).f0), .int .i64 0, .int .i64 0, .int .i64 0]) ?_ 1 _ rfl; (with_reducible repeat (first | refine bn_ ?_ _ | refine bw_ ?_ | refine ba_ ?_ _)); refine blk_put (cs := #[.int .i64 0, .int .i64 0, .int .i64 0, .int .i64 0]) ?_ 0 _ rfl; (with_reducible repeat (first | refine bn_ ?_ _ | refine bw_ ?_ | refine ba_ ?_ _)); exact BK179.out⟩, ⟨us_ HB.out⟩⟩
    rw [if_neg c13] at H
    have c13b0 : decide (a1_1 < ((rd_T118 l0 x8_1).f1)) = false := decide_eq_false c13
    clear c13
    (first | rw [c13b0] | (simp only [i64_w, i32_w]; rw [c13b0]) | skip)
    by_cases c17 : a1_1 = ((rd_T118 l0 x8_1).f1)
    rotate_left
    ·rw [if_neg c17] at H
     have c17b0 : (a1_1 == ((rd_T118 l0 x8_1).f1)) = false := beq_eq_false_iff_ne.mpr c17
     have c17b1 : (a1_1 != ((rd_T118 l0 x8_1).f1)) = true := bne_iff_ne.mpr c17
     have H' := mk_ H
     clear H
     have hnb21 := NB174_179.out
     have hnc21 := NB179_174.out
     obtain ⟨hcz22_0, hcz22_1, hcz22_2, hcz22_3, hfz22_0, hfz22_1, hfz22_2, hfz22_3⟩ := cells4_ BK174.out
     obtain ⟨hcz23_0, hcz23_1, hcz23_2, hcz23_3, hfz23_0, hfz23_1, hfz23_2, hfz23_3⟩ := cells4_ BK179.out
     go_wp2
     go_meet
     case rel => exact ⟨_, (false), (by first | rfl | (simp; done) | (simp [*]; done)), H', ⟨by have := HK1.out; first | omega | exact Nat.le_refl _⟩, ⟨by (with_reducible repeat (first | apply Kd.R_alloc | apply Kd.R_drewN | apply Kd.R_drew)); exact Kd.R_mono (Kd.R_far (p := ⟨gb179, 3, none⟩) (Kd.R_far (p := ⟨gb179, 2, none⟩) (Kd.R_far (p := ⟨gb179, 1, none⟩) (Kd.R_far (p := ⟨gb179, 0, none⟩) (Kd.R_mono HO_6.out (fun k_ hk => (⟨hk, hk.2⟩ : _ ∧ k_ ≠ gb179))) (fun _ hk => hk.2) (.int .i64 ((rd_T118 l0 x8_1).f0))) (fun _ hk => hk.2) (.int .i64 ((rd_T118 l0 x8_1).f1))) (fun _ hk => hk.2) (.int .i64 ((rd_T118 l0 x8_1).f2))) (fun _ hk => hk.2) (.int .i64 ((rd_T118 l0 x8_1).f3))) (fun _ hk => by first | exact ⟨hk.1.1, hk.1.2⟩ | exact hk.1 | exact hk | exact ⟨hk.1, hk.2⟩ | exact ⟨.inr hk.1, hk.2⟩ | simp only [hk, ne_eq, not_false_eq_true, and_self])⟩, ⟨uf_ BK174.out⟩, ⟨by (with_reducible repeat (first | refine bn_ ?_ _ | refine bw_ ?_ | refine ba_ ?_ _)); refine blk_put (cs := #[.int .i64 ((rd_T118 l0 x8_1).f0), .int .i64 ((rd_T118 l0 x8_1).f1), .int .i64 ((rd_T118 l0 x8_1).f2), .int .i64 0]) ?_ 3 _ rfl; (with_reducible repeat (first | refine bn_ ?_ _ | refine bw_ ?_ | refine ba_ ?_ _)); refine blk_put (cs := #[.int .i64 ((rd_T118 l0 x8_1).f0), .int .i64 ((rd_T118 l0 x8_1).f1), .int .i64 0, .int .i64 0]) ?_ 2 _ rfl; (with_reducible repeat (first | refine bn_ ?_ _ | refine bw_ ?_ | refine ba_ ?_ _)); refine blk_put (cs := #[.int .i64 ((rd_T118 l0 x8_1).f0), .int .i64 0, .int .i64 0, .int .i64 0]) ?_ 1 _ rfl; (with_reducible repeat (first | refine bn_ ?_ _ | refine bw_ ?_ | refine ba_ ?_ _)); refine blk_put (cs := #[.int .i64 0, .int .i64 0, .int .i64 0, .int .i64 0]) ?_ 0 _ rfl; (with_reducible repeat (first | refine bn_ ?_ _ | refine bw_ ?_ | refine ba_ ?_ _)); exact BK179.out⟩, ⟨us_ HB.out⟩⟩
    rw [if_pos c17] at H
    have c17b0 : (a1_1 == ((rd_T118 l0 x8_1).f1)) = true := beq_iff_eq.mpr c17
    have c17b1 : (a1_1 != ((rd_T118 l0 x8_1).f1)) = false := bne_eq_false_iff_eq.mpr c17
    clear c17
    have H' := mk_ H
    clear H
    have hnb18 := NB174_179.out
    have hnc18 := NB179_174.out
    obtain ⟨hcz19_0, hcz19_1, hcz19_2, hcz19_3, hfz19_0, hfz19_1, hfz19_2, hfz19_3⟩ := cells4_ BK174.out
    obtain ⟨hcz20_0, hcz20_1, hcz20_2, hcz20_3, hfz20_0, hfz20_1, hfz20_2, hfz20_3⟩ := cells4_ BK179.out
    go_wp2
    go_meet
    case rel => exact ⟨_, (decide (a1_0 ≤ ((rd_T118 l0 x8_1).f0))), (by first | rfl | (simp; done) | (simp [*]; done)), H', ⟨by have := HK1.out; first | omega | exact Nat.le_refl _⟩, ⟨by (with_reducible repeat (first | apply Kd.R_alloc | apply Kd.R_drewN | apply Kd.R_drew)); exact Kd.R_mono (Kd.R_far (p := ⟨gb179, 3, none⟩) (Kd.R_far (p := ⟨gb179, 2, none⟩) (Kd.R_far (p := ⟨gb179, 1, none⟩) (Kd.R_far (p := ⟨gb179, 0, none⟩) (Kd.R_mono HO_6.out (fun k_ hk => (⟨hk, hk.2⟩ : _ ∧ k_ ≠ gb179))) (fun _ hk => hk.2) (.int .i64 ((rd_T118 l0 x8_1).f0))) (fun _ hk => hk.2) (.int .i64 ((rd_T118 l0 x8_1).f1))) (fun _ hk => hk.2) (.int .i64 ((rd_T118 l0 x8_1).f2))) (fun _ hk => hk.2) (.int .i64 ((rd_T118 l0 x8_1).f3))) (fun _ hk => by first | exact ⟨hk.1.1, hk.1.2⟩ | exact hk.1 | exact hk | exact ⟨hk.1, hk.2⟩ | exact ⟨.inr hk.1, hk.2⟩ | simp only [hk, ne_eq, not_false_eq_true, and_self])⟩, ⟨uf_ BK174.out⟩, ⟨by (with_reducible repeat (first | refine bn_ ?_ _ | refine bw_ ?_ | refine ba_ ?_ _)); refine blk_put (cs := #[.int .i64 ((rd_T118 l0 x8_1).f0), .int .i64 ((rd_T118 l0 x8_1).f1), .int .i64 ((rd_T118 l0 x8_1).f2), .int .i64 0]) ?_ 3 _ rfl; (with_reducible repeat (first | refine bn_ ?_ _ | refine bw_ ?_ | refine ba_ ?_ _)); refine blk_put (cs := #[.int .i64 ((rd_T118 l0 x8_1).f0), .int .i64 ((rd_T118 l0 x8_1).f1), .int .i64 0, .int .i64 0]) ?_ 2 _ rfl; (with_reducible repeat (first | refine bn_ ?_ _ | refine bw_ ?_ | refine ba_ ?_ _)); refine blk_put (cs := #[.int .i64 ((rd_T118 l0 x8_1).f0), .int .i64 0, .int .i64 0, .int .i64 0]) ?_ 1 _ rfl; (with_reducible repeat (first | refine bn_ ?_ _ | refine bw_ ?_ | refine ba_ ?_ _)); refine blk_put (cs := #[.int .i64 0, .int .i64 0, .int .i64 0, .int .i64 0]) ?_ 0 _ rfl; (with_reducible repeat (first | refine bn_ ?_ _ | refine bw_ ?_ | refine ba_ ?_ _)); exact BK179.out⟩, ⟨us_ HB.out⟩⟩
   case rest =>
    clear HC8
    try clear c1
    try clear p1
    try clear q1
    try clear hx1
    try clear c2
    try clear p2
    try clear c6
    try clear c6b0
    try clear c7
    try clear c7b0
    try clear c10
    try clear c12
    try clear c13
    try clear c13b0
    try clear c14
    try clear c17
    try clear c17b0
    try clear c17b1
    try clear p17
    try clear q17
    try clear hx17
    try clear c18
    try clear c21
    try clear hcz11_0
    try clear hcz11_1
    try clear hcz11_2
    try clear hcz11_3
    try clear hcz15_0
    try clear hcz15_1
    try clear hcz15_2
    try clear hcz15_3
    try clear hcz16_0
    try clear hcz16_1
    try clear hcz16_2
    try clear hcz16_3
    try clear hcz19_0
    try clear hcz19_1
    try clear hcz19_2
    try clear hcz19_3
    try clear hcz20_0
    try clear hcz20_1
    try clear hcz20_2
    try clear hcz20_3
    try clear hcz22_0
    try clear hcz22_1
    try clear hcz22_2
    try clear hcz22_3
    try clear hcz23_0
    try clear hcz23_1
    try clear hcz23_2
    try clear hcz23_3
    try clear hfz11_0
    try clear hfz11_1
    try clear hfz11_2
    try clear hfz11_3
    try clear hfz15_0
    try clear hfz15_1
    try clear hfz15_2
    try clear hfz15_3
    try clear hfz16_0
    try clear hfz16_1
    try clear hfz16_2
    try clear hfz16_3
    try clear hfz19_0
    try clear hfz19_1
    try clear hfz19_2
    try clear hfz19_3
    try clear hfz20_0
    try clear hfz20_1
    try clear hfz20_2
    try clear hfz20_3
    try clear hfz22_0
    try clear hfz22_1
    try clear hfz22_2
    try clear hfz22_3
    try clear hfz23_0
    try clear hfz23_1
    try clear hfz23_2
    try clear hfz23_3
    try clear hx178_0
    try clear hx178_1
    try clear hx178_2
    try clear hx178_3
    try clear p178
    try clear p2
    try clear q178
    obtain ⟨kq, x43_7, rfl, HA, HJ7, HO_6, BK174, BK179, HB⟩ := hcut
    cases kq with
    | zero => exact absurd HA.out (by simp [spec_RoutePut.j1])
    | succ kj7 =>
     have H := HA.out
     clear HA
     simp only [spec_RoutePut.j1] at H
     by_cases c24 : x43_7 = true
     ·subst c24
      have H1 : (if x6_1.length < 4398046511104 then ((some (x6_1 ++ [(⟨a1_0, a1_1, a1_2, a1_3⟩ : S118)] : List (S118))).bind fun y180 => (if ((rd_T118 l0 x8_1).f1) = a1_1 then (if ((rd_T118 l0 x8_1).f0) = a1_0 then (spec_RoutePut.l0 kj7 l0 y180 true (wrap64 (x8_1 + 1)) a1_0 a1_1 a1_2 a1_3) else (if y180.length < 4398046511104 then (spec_RoutePut.l0 kj7 l0 (y180 ++ [(⟨((rd_T118 l0 x8_1).f0), ((rd_T118 l0 x8_1).f1), ((rd_T118 l0 x8_1).f2), ((rd_T118 l0 x8_1).f3)⟩ : S118)]) true (wrap64 (x8_1 + 1)) a1_0 a1_1 a1_2 a1_3) else (none))) else (if y180.length < 4398046511104 then (spec_RoutePut.l0 kj7 l0 (y180 ++ [(⟨((rd_T118 l0 x8_1).f0), ((rd_T118 l0 x8_1).f1), ((rd_T118 l0 x8_1).f2), ((rd_T118 l0 x8_1).f3)⟩ : S118)]) true (wrap64 (x8_1 + 1)) a1_0 a1_1 a1_2 a1_3) else (none)))) else (none)) = some (r1, r2) := by rw [if_pos rfl] at H; exact H
      clear H
      have H := H1
      clear H1
      by_cases c25 : x6_1.length < 4398046511104
      rotate_left
      ·rw [if_neg c25] at H
       exact absurd H (by simp)
      rw [if_pos c25] at H
      have LMc25 := mk_ c25
      clear c25
      obtain ⟨y180, hy180⟩ : ∃ y_ : List (S118), y_ = (x6_1 ++ [(⟨a1_0, a1_1, a1_2, a1_3⟩ : S118)]) := ⟨_, rfl⟩
      replace H : (if ((rd_T118 l0 x8_1).f1) = a1_1 then (if ((rd_T118 l0 x8_1).f0) = a1_0 then (spec_RoutePut.l0 kj7 l0 y180 true (wrap64 (x8_1 + 1)) a1_0 a1_1 a1_2 a1_3) else (if y180.length < 4398046511104 then (spec_RoutePut.l0 kj7 l0 (y180 ++ [(⟨((rd_T118 l0 x8_1).f0), ((rd_T118 l0 x8_1).f1), ((rd_T118 l0 x8_1).f2), ((rd_T118 l0 x8_1).f3)⟩ : S118)]) true (wrap64 (x8_1 + 1)) a1_0 a1_1 a1_2 a1_3) else (none))) else (if y180.length < 4398046511104 then (spec_RoutePut.l0 kj7 l0 (y180 ++ [(⟨((rd_T118 l0 x8_1).f0), ((rd_T118 l0 x8_1).f1), ((rd_T118 l0 x8_1).f2), ((rd_T118 l0 x8_1).f3)⟩ : S118)]) true (wrap64 (x8_1 + 1)) a1_0 a1_1 a1_2 a1_3) else (none))) = some (r1, r2) := by first | (rw [hy180]; with_reducible exact H) | (have H2_ := (Option.bind_some _ _).symm.trans H; rw [hy180]; with_reducible exact H2_) | (have H2_ := (Option.bind_some _ _).symm.trans H; with_reducible exact H2_) | with_reducible exact H | (rw [hy180]; exact H) | exact H
      have Ny180 := mk_ hy180
      clear hy180
      by_cases c26 : ((rd_T118 l0 x8_1).f1) = a1_1
      rotate_left
      ·rw [if_neg c26] at H
       have c26b0 : (((rd_T118 l0 x8_1).f1) == a1_1) = false := beq_eq_false_iff_ne.mpr c26
       have c26b1 : (((rd_T118 l0 x8_1).f1) != a1_1) = true := bne_iff_ne.mpr c26
       by_cases c40 : y180.length < 4398046511104
       rotate_left
       ·rw [if_neg c40] at H
        exact absurd H (by simp)
       rw [if_pos c40] at H
       have LMc40 := mk_ c40
       clear c40
       obtain ⟨y186, hy186⟩ : ∃ y_ : List (S118), y_ = (y180 ++ [(⟨((rd_T118 l0 x8_1).f0), ((rd_T118 l0 x8_1).f1), ((rd_T118 l0 x8_1).f2), ((rd_T118 l0 x8_1).f3)⟩ : S118)]) := ⟨_, rfl⟩
       replace H : (spec_RoutePut.l0 kj7 l0 y186 true (wrap64 (x8_1 + 1)) a1_0 a1_1 a1_2 a1_3) = some (r1, r2) := by first | (rw [hy186]; with_reducible exact H) | (have H2_ := (Option.bind_some _ _).symm.trans H; rw [hy186]; with_reducible exact H2_) | (have H2_ := (Option.bind_some _ _).symm.trans H; with_reducible exact H2_) | with_reducible exact H | (rw [hy186]; exact H) | exact H
       have Ny186 := mk_ hy186
       clear hy186
       have H' := mk_ H
       clear H
       have hnb41 := NB174_179.out
       have hnc41 := NB179_174.out
       obtain ⟨hcz42_0, hcz42_1, hcz42_2, hcz42_3, hfz42_0, hfz42_1, hfz42_2, hfz42_3⟩ := cells4_ BK174.out
       go_wp2_with (first | ((with_reducible refine gate_builtin (b := .append) (xs := #[.tmp 44, .tmp 46]) rfl ?_); at_builtin; refine Kd.R_append k118 (w0 := w) w.heap.size rfl (.tmp 44) (.tmp 46) 77 118 (.agg #[(.int .i64 0), (.int .i64 0), (.int .i64 0), (.int .i64 0)]) 32 rfl Try.underlying77 info118 rfl (by decide) (by omega) u6 x6_1 (⟨a1_0, a1_1, a1_2, a1_3⟩ : S118) [.int .i64 a1_0, .int .i64 a1_1, .int .i64 a1_2, .int .i64 a1_3] (fun k_ => k_ ≠ gb174 ∧ k_ ≠ gb179) (fun _ => False) rfl rfl ?aP (fun _ hk => hk.elim) ?aF ?aO ?aB ?aS ?aL ?_; (case aP => exact k118_mkM _ _ _ (⟨a1_0, a1_1, a1_2, a1_3⟩ : S118)); (case aB => exact (us_ HB.out)); (case aF => exact (fun k_ hk => ⟨Kd.freshB (g := gb174) (o := .cells #[.int .i64 a1_0, .int .i64 a1_1, .int .i64 a1_2, .int .i64 a1_3] 118 (0, 0)) (u_ BK174.out) k_ hk, Kd.freshB (g := gb179) (o := .cells #[.int .i64 ((rd_T118 l0 x8_1).f0), .int .i64 ((rd_T118 l0 x8_1).f1), .int .i64 ((rd_T118 l0 x8_1).f2), .int .i64 ((rd_T118 l0 x8_1).f3)] 118 (0, 0)) (u_ BK179.out) k_ hk⟩)); (case aO => exact (Kd.ur_ HO_6.out)); (case aS => exact (below_size (us_ HB.out))); (case aL => have := LMc25.out; omega); intro v181 w43 ho hb hg hat; rw [← Ny180.out] at ho; have n0_ := mk_ (blk_grown (g := gb174) (o := .cells #[.int .i64 a1_0, .int .i64 a1_1, .int .i64 a1_2, .int .i64 a1_3] 118 (0, 0)) (u_ BK174.out) hg (Kd.R_away HO_6.out (fun _ hk => hk.1))); have n1_ := mk_ (blk_grown (g := gb179) (o := .cells #[.int .i64 ((rd_T118 l0 x8_1).f0), .int .i64 ((rd_T118 l0 x8_1).f1), .int .i64 ((rd_T118 l0 x8_1).f2), .int .i64 ((rd_T118 l0 x8_1).f3)] 118 (0, 0)) (u_ BK179.out) hg (Kd.R_away HO_6.out (fun _ hk => hk.2))); have n2_ := mk_ (hb); have n3_ := mk_ (ho); clear BK174; clear BK179; clear HB; clear HO_6; have BK174 := n0_; have BK179 := n1_; have HB := n2_; have HO182 := n3_; clear n0_ n1_ n2_ n3_; clear ho hb hg hat; obtain ⟨hcz44_0, hcz44_1, hcz44_2, hcz44_3, hfz44_0, hfz44_1, hfz44_2, hfz44_3⟩ := cells4_ BK179.out; obtain ⟨hcz45_0, hcz45_1, hcz45_2, hcz45_3, hfz45_0, hfz45_1, hfz45_2, hfz45_3⟩ := cells4_ BK174.out) | ((with_reducible refine gate_builtin (b := .append) (xs := #[.tmp 60, .tmp 62]) rfl ?_); at_builtin; refine Kd.R_append k118 (w0 := w) w.heap.size rfl (.tmp 60) (.tmp 62) 77 118 (.agg #[(.int .i64 0), (.int .i64 0), (.int .i64 0), (.int .i64 0)]) 32 rfl Try.underlying77 info118 rfl (by decide) (by omega) v181 y180 (⟨((rd_T118 l0 x8_1).f0), ((rd_T118 l0 x8_1).f1), ((rd_T118 l0 x8_1).f2), ((rd_T118 l0 x8_1).f3)⟩ : S118) [.int .i64 ((rd_T118 l0 x8_1).f0), .int .i64 ((rd_T118 l0 x8_1).f1), .int .i64 ((rd_T118 l0 x8_1).f2), .int .i64 ((rd_T118 l0 x8_1).f3)] (fun k_ => k_ ≠ gb174 ∧ k_ ≠ gb179) (fun _ => False) rfl rfl ?aP (fun _ hk => hk.elim) ?aF ?aO ?aB ?aS ?aL ?_; (case aP => exact k118_mkM _ _ _ (⟨((rd_T118 l0 x8_1).f0), ((rd_T118 l0 x8_1).f1), ((rd_T118 l0 x8_1).f2), ((rd_T118 l0 x8_1).f3)⟩ : S118)); (case aB => exact (us_ HB.out)); (case aF => exact (fun k_ hk => ⟨Kd.freshB (g := gb174) (o := .cells #[.int .i64 a1_0, .int .i64 a1_1, .int .i64 a1_2, .int .i64 a1_3] 118 (0, 0)) (u_ BK174.out) k_ hk, Kd.freshB (g := gb179) (o := .cells #[.int .i64 ((rd_T118 l0 x8_1).f0), .int .i64 ((rd_T118 l0 x8_1).f1), .int .i64 ((rd_T118 l0 x8_1).f2), .int .i64 ((rd_T118 l0 x8_1).f3)] 118 (0, 0)) (u_ BK179.out) k_ hk⟩)); (case aO => exact (Kd.ur_ HO182.out)); (case aS => exact (below_size (us_ HB.out))); (case aL => have := LMc40.out; omega); intro v187 w46 ho hb hg hat; rw [← Ny186.out] at ho; have n0_ := mk_ (blk_grown (g := gb174) (o := .cells #[.int .i64 a1_0, .int .i64 a1_1, .int .i64 a1_2, .int .i64 a1_3] 118 (0, 0)) (u_ BK174.out) hg (Kd.R_away HO182.out (fun _ hk => hk.1))); have n1_ := mk_ (blk_grown (g := gb179) (o := .cells #[.int .i64 ((rd_T118 l0 x8_1).f0), .int .i64 ((rd_T118 l0 x8_1).f1), .int .i64 ((rd_T118 l0 x8_1).f2), .int .i64 ((rd_T118 l0 x8_1).f3)] 118 (0, 0)) (u_ BK179.out) hg (Kd.R_away HO182.out (fun _ hk => hk.2))); have n2_ := mk_ (hb); have n3_ := mk_ (ho); clear BK174; clear BK179; clear HB; clear HO182; have BK174 := n0_; have BK179 := n1_; have HB := n2_; have HO188 := n3_; clear n0_ n1_ n2_ n3_; clear ho hb hg hat))
       go_roundg kj7
       case measure => have := HK1.out; have := HJ7.out; omega
       case rel => exact ⟨(y186), (true), (wrap64 (x8_1 + 1)), (by first | rfl | (simp; done) | (simp [*]; done)), (by first | rfl | (simp; done) | (simp [*]; done)), H', ⟨by have := HK1.out; have := HJ7.out; omega⟩, ⟨by (with_reducible repeat (first | apply Kd.R_alloc | apply Kd.R_drewN | apply Kd.R_drew)); exact Kd.R_mono HO188.out (fun _ hk => hk.1)⟩, ⟨u_ BK174.out⟩, ⟨us_ HB.out⟩⟩
      rw [if_pos c26] at H
      have c26b0 : (((rd_T118 l0 x8_1).f1) == a1_1) = true := beq_iff_eq.mpr c26
      have c26b1 : (((rd_T118 l0 x8_1).f1) != a1_1) = false := bne_eq_false_iff_eq.mpr c26
      clear c26
      by_cases c27 : ((rd_T118 l0 x8_1).f0) = a1_0
      ·rw [if_pos c27] at H
       have c27b0 : (((rd_T118 l0 x8_1).f0) == a1_0) = true := beq_iff_eq.mpr c27
       have c27b1 : (((rd_T118 l0 x8_1).f0) != a1_0) = false := bne_eq_false_iff_eq.mpr c27
       clear c27
       have H' := mk_ H
       clear H
       have hnb28 := NB174_179.out
       have hnc28 := NB179_174.out
       obtain ⟨hcz29_0, hcz29_1, hcz29_2, hcz29_3, hfz29_0, hfz29_1, hfz29_2, hfz29_3⟩ := cells4_ BK174.out
       go_wp2_with (first | ((with_reducible refine gate_builtin (b := .append) (xs := #[.tmp 44, .tmp 46]) rfl ?_); at_builtin; refine Kd.R_append k118 (w0 := w) w.heap.size rfl (.tmp 44) (.tmp 46) 77 118 (.agg #[(.int .i64 0), (.int .i64 0), (.int .i64 0), (.int .i64 0)]) 32 rfl Try.underlying77 info118 rfl (by decide) (by omega) u6 x6_1 (⟨a1_0, a1_1, a1_2, a1_3⟩ : S118) [.int .i64 a1_0, .int .i64 a1_1, .int .i64 a1_2, .int .i64 a1_3] (fun k_ => k_ ≠ gb174 ∧ k_ ≠ gb179) (fun _ => False) rfl rfl ?aP (fun _ hk => hk.elim) ?aF ?aO ?aB ?aS ?aL ?_; (case aP => exact k118_mkM _ _ _ (⟨a1_0, a1_1, a1_2, a1_3⟩ : S118)); (case aB => exact (us_ HB.out)); (case aF => exact (fun k_ hk => ⟨Kd.freshB (g := gb174) (o := .cells #[.int .i64 a1_0, .int .i64 a1_1, .int .i64 a1_2, .int .i64 a1_3] 118 (0, 0)) (u_ BK174.out) k_ hk, Kd.freshB (g := gb179) (o := .cells #[.int .i64 ((rd_T118 l0 x8_1).f0), .int .i64 ((rd_T118 l0 x8_1).f1), .int .i64 ((rd_T118 l0 x8_1).f2), .int .i64 ((rd_T118 l0 x8_1).f3)] 118 (0, 0)) (u_ BK179.out) k_ hk⟩)); (case aO => exact (Kd.ur_ HO_6.out)); (case aS => exact (below_size (us_ HB.out))); (case aL => have := LMc25.out; omega); intro v181 w30 ho hb hg hat; rw [← Ny180.out] at ho; have n0_ := mk_ (blk_grown (g := gb174) (o := .cells #[.int .i64 a1_0, .int .i64 a1_1, .int .i64 a1_2, .int .i64 a1_3] 118 (0, 0)) (u_ BK174.out) hg (Kd.R_away HO_6.out (fun _ hk => hk.1))); have n1_ := mk_ (blk_grown (g := gb179) (o := .cells #[.int .i64 ((rd_T118 l0 x8_1).f0), .int .i64 ((rd_T118 l0 x8_1).f1), .int .i64 ((rd_T118 l0 x8_1).f2), .int .i64 ((rd_T118 l0 x8_1).f3)] 118 (0, 0)) (u_ BK179.out) hg (Kd.R_away HO_6.out (fun _ hk => hk.2))); have n2_ := mk_ (hb); have n3_ := mk_ (ho); clear BK174; clear BK179; clear HB; clear HO_6; have BK174 := n0_; have BK179 := n1_; have HB := n2_; have HO182 := n3_; clear n0_ n1_ n2_ n3_; clear ho hb hg hat; obtain ⟨hcz31_0, hcz31_1, hcz31_2, hcz31_3, hfz31_0, hfz31_1, hfz31_2, hfz31_3⟩ := cells4_ BK179.out; obtain ⟨hcz32_0, hcz32_1, hcz32_2, hcz32_3, hfz32_0, hfz32_1, hfz32_2, hfz32_3⟩ := cells4_ BK174.out))
       go_roundg kj7
       case measure => have := HK1.out; have := HJ7.out; omega
       case rel => exact ⟨(y180), (true), (wrap64 (x8_1 + 1)), (by first | rfl | (simp; done) | (simp [*]; done)), (by first | rfl | (simp; done) | (simp [*]; done)), H', ⟨by have := HK1.out; have := HJ7.out; omega⟩, ⟨by (with_reducible repeat (first | apply Kd.R_alloc | apply Kd.R_drewN | apply Kd.R_drew)); exact Kd.R_mono HO182.out (fun _ hk => hk.1)⟩, ⟨u_ BK174.out⟩, ⟨us_ HB.out⟩⟩
      rw [if_neg c27] at H
      have c27b0 : (((rd_T118 l0 x8_1).f0) == a1_0) = false := beq_eq_false_iff_ne.mpr c27
      have c27b1 : (((rd_T118 l0 x8_1).f0) != a1_0) = true := bne_iff_ne.mpr c27
      by_cases c33 : y180.length < 4398046511104
      rotate_left
      ·rw [if_neg c33] at H
       exact absurd H (by simp)
      rw [if_pos c33] at H
      have LMc33 := mk_ c33
      clear c33
      obtain ⟨y183, hy183⟩ : ∃ y_ : List (S118), y_ = (y180 ++ [(⟨((rd_T118 l0 x8_1).f0), ((rd_T118 l0 x8_1).f1), ((rd_T118 l0 x8_1).f2), ((rd_T118 l0 x8_1).f3)⟩ : S118)]) := ⟨_, rfl⟩
      replace H : (spec_RoutePut.l0 kj7 l0 y183 true (wrap64 (x8_1 + 1)) a1_0 a1_1 a1_2 a1_3) = some (r1, r2) := by first | (rw [hy183]; with_reducible exact H) | (have H2_ := (Option.bind_some _ _).symm.trans H; rw [hy183]; with_reducible exact H2_) | (have H2_ := (Option.bind_some _ _).symm.trans H; with_reducible exact H2_) | with_reducible exact H | (rw [hy183]; exact H) | exact H
      have Ny183 := mk_ hy183
      clear hy183
      have H' := mk_ H
      clear H
      have hnb34 := NB174_179.out
      have hnc34 := NB179_174.out
      obtain ⟨hcz35_0, hcz35_1, hcz35_2, hcz35_3, hfz35_0, hfz35_1, hfz35_2, hfz35_3⟩ := cells4_ BK174.out
      go_wp2_with (first | ((with_reducible refine gate_builtin (b := .append) (xs := #[.tmp 44, .tmp 46]) rfl ?_); at_builtin; refine Kd.R_append k118 (w0 := w) w.heap.size rfl (.tmp 44) (.tmp 46) 77 118 (.agg #[(.int .i64 0), (.int .i64 0), (.int .i64 0), (.int .i64 0)]) 32 rfl Try.underlying77 info118 rfl (by decide) (by omega) u6 x6_1 (⟨a1_0, a1_1, a1_2, a1_3⟩ : S118) [.int .i64 a1_0, .int .i64 a1_1, .int .i64 a1_2, .int .i64 a1_3] (fun k_ => k_ ≠ gb174 ∧ k_ ≠ gb179) (fun _ => False) rfl rfl ?aP (fun _ hk => hk.elim) ?aF ?aO ?aB ?aS ?aL ?_; (case aP => exact k118_mkM _ _ _ (⟨a1_0, a1_1, a1_2, a1_3⟩ : S118)); (case aB => exact (us_ HB.out)); (case aF => exact (fun k_ hk => ⟨Kd.freshB (g := gb174) (o := .cells #[.int .i64 a1_0, .int .i64 a1_1, .int .i64 a1_2, .int .i64 a1_3] 118 (0, 0)) (u_ BK174.out) k_ hk, Kd.freshB (g := gb179) (o := .cells #[.int .i64 ((rd_T118 l0 x8_1).f0), .int .i64 ((rd_T118 l0 x8_1).f1), .int .i64 ((rd_T118 l0 x8_1).f2), .int .i64 ((rd_T118 l0 x8_1).f3)] 118 (0, 0)) (u_ BK179.out) k_ hk⟩)); (case aO => exact (Kd.ur_ HO_6.out)); (case aS => exact (below_size (us_ HB.out))); (case aL => have := LMc25.out; omega); intro v181 w36 ho hb hg hat; rw [← Ny180.out] at ho; have n0_ := mk_ (blk_grown (g := gb174) (o := .cells #[.int .i64 a1_0, .int .i64 a1_1, .int .i64 a1_2, .int .i64 a1_3] 118 (0, 0)) (u_ BK174.out) hg (Kd.R_away HO_6.out (fun _ hk => hk.1))); have n1_ := mk_ (blk_grown (g := gb179) (o := .cells #[.int .i64 ((rd_T118 l0 x8_1).f0), .int .i64 ((rd_T118 l0 x8_1).f1), .int .i64 ((rd_T118 l0 x8_1).f2), .int .i64 ((rd_T118 l0 x8_1).f3)] 118 (0, 0)) (u_ BK179.out) hg (Kd.R_away HO_6.out (fun _ hk => hk.2))); have n2_ := mk_ (hb); have n3_ := mk_ (ho); clear BK174; clear BK179; clear HB; clear HO_6; have BK174 := n0_; have BK179 := n1_; have HB := n2_; have HO182 := n3_; clear n0_ n1_ n2_ n3_; clear ho hb hg hat; obtain ⟨hcz37_0, hcz37_1, hcz37_2, hcz37_3, hfz37_0, hfz37_1, hfz37_2, hfz37_3⟩ := cells4_ BK179.out; obtain ⟨hcz38_0, hcz38_1, hcz38_2, hcz38_3, hfz38_0, hfz38_1, hfz38_2, hfz38_3⟩ := cells4_ BK174.out) | ((with_reducible refine gate_builtin (b := .append) (xs := #[.tmp 60, .tmp 62]) rfl ?_); at_builtin; refine Kd.R_append k118 (w0 := w) w.heap.size rfl (.tmp 60) (.tmp 62) 77 118 (.agg #[(.int .i64 0), (.int .i64 0), (.int .i64 0), (.int .i64 0)]) 32 rfl Try.underlying77 info118 rfl (by decide) (by omega) v181 y180 (⟨((rd_T118 l0 x8_1).f0), ((rd_T118 l0 x8_1).f1), ((rd_T118 l0 x8_1).f2), ((rd_T118 l0 x8_1).f3)⟩ : S118) [.int .i64 ((rd_T118 l0 x8_1).f0), .int .i64 ((rd_T118 l0 x8_1).f1), .int .i64 ((rd_T118 l0 x8_1).f2), .int .i64 ((rd_T118 l0 x8_1).f3)] (fun k_ => k_ ≠ gb174 ∧ k_ ≠ gb179) (fun _ => False) rfl rfl ?aP (fun _ hk => hk.elim) ?aF ?aO ?aB ?aS ?aL ?_; (case aP => exact k118_mkM _ _ _ (⟨((rd_T118 l0 x8_1).f0), ((rd_T118 l0 x8_1).f1), ((rd_T118 l0 x8_1).f2), ((rd_T118 l0 x8_1).f3)⟩ : S118)); (case aB => exact (us_ HB.out)); (case aF => exact (fun k_ hk => ⟨Kd.freshB (g := gb174) (o := .cells #[.int .i64 a1_0, .int .i64 a1_1, .int .i64 a1_2, .int .i64 a1_3] 118 (0, 0)) (u_ BK174.out) k_ hk, Kd.freshB (g := gb179) (o := .cells #[.int .i64 ((rd_T118 l0 x8_1).f0), .int .i64 ((rd_T118 l0 x8_1).f1), .int .i64 ((rd_T118 l0 x8_1).f2), .int .i64 ((rd_T118 l0 x8_1).f3)] 118 (0, 0)) (u_ BK179.out) k_ hk⟩)); (case aO => exact (Kd.ur_ HO182.out)); (case aS => exact (below_size (us_ HB.out))); (case aL => have := LMc33.out; omega); intro v184 w39 ho hb hg hat; rw [← Ny183.out] at ho; have n0_ := mk_ (blk_grown (g := gb174) (o := .cells #[.int .i64 a1_0, .int .i64 a1_1, .int .i64 a1_2, .int .i64 a1_3] 118 (0, 0)) (u_ BK174.out) hg (Kd.R_away HO182.out (fun _ hk => hk.1))); have n1_ := mk_ (blk_grown (g := gb179) (o := .cells #[.int .i64 ((rd_T118 l0 x8_1).f0), .int .i64 ((rd_T118 l0 x8_1).f1), .int .i64 ((rd_T118 l0 x8_1).f2), .int .i64 ((rd_T118 l0 x8_1).f3)] 118 (0, 0)) (u_ BK179.out) hg (Kd.R_away HO182.out (fun _ hk => hk.2))); have n2_ := mk_ (hb); have n3_ := mk_ (ho); clear BK174; clear BK179; clear HB; clear HO182; have BK174 := n0_; have BK179 := n1_; have HB := n2_; have HO185 := n3_; clear n0_ n1_ n2_ n3_; clear ho hb hg hat))
      go_roundg kj7
      case measure => have := HK1.out; have := HJ7.out; omega
      case rel => exact ⟨(y183), (true), (wrap64 (x8_1 + 1)), (by first | rfl | (simp; done) | (simp [*]; done)), (by first | rfl | (simp; done) | (simp [*]; done)), H', ⟨by have := HK1.out; have := HJ7.out; omega⟩, ⟨by (with_reducible repeat (first | apply Kd.R_alloc | apply Kd.R_drewN | apply Kd.R_drew)); exact Kd.R_mono HO185.out (fun _ hk => hk.1)⟩, ⟨u_ BK174.out⟩, ⟨us_ HB.out⟩⟩
     replace c24 := Bool.eq_false_iff.mpr c24
     subst c24
     have H1 : (if ((rd_T118 l0 x8_1).f1) = a1_1 then (if ((rd_T118 l0 x8_1).f0) = a1_0 then (spec_RoutePut.l0 kj7 l0 x6_1 x7_1 (wrap64 (x8_1 + 1)) a1_0 a1_1 a1_2 a1_3) else (if x6_1.length < 4398046511104 then (spec_RoutePut.l0 kj7 l0 (x6_1 ++ [(⟨((rd_T118 l0 x8_1).f0), ((rd_T118 l0 x8_1).f1), ((rd_T118 l0 x8_1).f2), ((rd_T118 l0 x8_1).f3)⟩ : S118)]) x7_1 (wrap64 (x8_1 + 1)) a1_0 a1_1 a1_2 a1_3) else (none))) else (if x6_1.length < 4398046511104 then (spec_RoutePut.l0 kj7 l0 (x6_1 ++ [(⟨((rd_T118 l0 x8_1).f0), ((rd_T118 l0 x8_1).f1), ((rd_T118 l0 x8_1).f2), ((rd_T118 l0 x8_1).f3)⟩ : S118)]) x7_1 (wrap64 (x8_1 + 1)) a1_0 a1_1 a1_2 a1_3) else (none))) = some (r1, r2) := by rw [if_neg (show ¬ (false = true) by decide)] at H; exact H
     clear H
     have H := H1
     clear H1
     by_cases c47 : ((rd_T118 l0 x8_1).f1) = a1_1
     rotate_left
     ·rw [if_neg c47] at H
      have c47b0 : (((rd_T118 l0 x8_1).f1) == a1_1) = false := beq_eq_false_iff_ne.mpr c47
      have c47b1 : (((rd_T118 l0 x8_1).f1) != a1_1) = true := bne_iff_ne.mpr c47
      by_cases c57 : x6_1.length < 4398046511104
      rotate_left
      ·rw [if_neg c57] at H
       exact absurd H (by simp)
      rw [if_pos c57] at H
      have LMc57 := mk_ c57
      clear c57
      obtain ⟨y192, hy192⟩ : ∃ y_ : List (S118), y_ = (x6_1 ++ [(⟨((rd_T118 l0 x8_1).f0), ((rd_T118 l0 x8_1).f1), ((rd_T118 l0 x8_1).f2), ((rd_T118 l0 x8_1).f3)⟩ : S118)]) := ⟨_, rfl⟩
      replace H : (spec_RoutePut.l0 kj7 l0 y192 x7_1 (wrap64 (x8_1 + 1)) a1_0 a1_1 a1_2 a1_3) = some (r1, r2) := by first | (rw [hy192]; with_reducible exact H) | (have H2_ := (Option.bind_some _ _).symm.trans H; rw [hy192]; with_reducible exact H2_) | (have H2_ := (Option.bind_some _ _).symm.trans H; with_reducible exact H2_) | with_reducible exact H | (rw [hy192]; exact H) | exact H
      have Ny192 := mk_ hy192
      clear hy192
      have H' := mk_ H
      clear H
      have hnb58 := NB179_174.out
      have hnc58 := NB174_179.out
      obtain ⟨hcz59_0, hcz59_1, hcz59_2, hcz59_3, hfz59_0, hfz59_1, hfz59_2, hfz59_3⟩ := cells4_ BK179.out
      obtain ⟨hcz60_0, hcz60_1, hcz60_2, hcz60_3, hfz60_0, hfz60_1, hfz60_2, hfz60_3⟩ := cells4_ BK174.out
      go_wp2_with (first | ((with_reducible refine gate_builtin (b := .append) (xs := #[.tmp 60, .tmp 62]) rfl ?_); at_builtin; refine Kd.R_append k118 (w0 := w) w.heap.size rfl (.tmp 60) (.tmp 62) 77 118 (.agg #[(.int .i64 0), (.int .i64 0), (.int .i64 0), (.int .i64 0)]) 32 rfl Try.underlying77 info118 rfl (by decide) (by omega) u6 x6_1 (⟨((rd_T118 l0 x8_1).f0), ((rd_T118 l0 x8_1).f1), ((rd_T118 l0 x8_1).f2), ((rd_T118 l0 x8_1).f3)⟩ : S118) [.int .i64 ((rd_T118 l0 x8_1).f0), .int .i64 ((rd_T118 l0 x8_1).f1), .int .i64 ((rd_T118 l0 x8_1).f2), .int .i64 ((rd_T118 l0 x8_1).f3)] (fun k_ => k_ ≠ gb174 ∧ k_ ≠ gb179) (fun _ => False) rfl rfl ?aP (fun _ hk => hk.elim) ?aF ?aO ?aB ?aS ?aL ?_; (case aP => exact k118_mkM _ _ _ (⟨((rd_T118 l0 x8_1).f0), ((rd_T118 l0 x8_1).f1), ((rd_T118 l0 x8_1).f2), ((rd_T118 l0 x8_1).f3)⟩ : S118)); (case aB => exact (us_ HB.out)); (case aF => exact (fun k_ hk => ⟨Kd.freshB (g := gb174) (o := .cells #[.int .i64 a1_0, .int .i64 a1_1, .int .i64 a1_2, .int .i64 a1_3] 118 (0, 0)) (u_ BK174.out) k_ hk, Kd.freshB (g := gb179) (o := .cells #[.int .i64 ((rd_T118 l0 x8_1).f0), .int .i64 ((rd_T118 l0 x8_1).f1), .int .i64 ((rd_T118 l0 x8_1).f2), .int .i64 ((rd_T118 l0 x8_1).f3)] 118 (0, 0)) (u_ BK179.out) k_ hk⟩)); (case aO => exact (Kd.ur_ HO_6.out)); (case aS => exact (below_size (us_ HB.out))); (case aL => have := LMc57.out; omega); intro v193 w61 ho hb hg hat; rw [← Ny192.out] at ho; have n0_ := mk_ (blk_grown (g := gb174) (o := .cells #[.int .i64 a1_0, .int .i64 a1_1, .int .i64 a1_2, .int .i64 a1_3] 118 (0, 0)) (u_ BK174.out) hg (Kd.R_away HO_6.out (fun _ hk => hk.1))); have n1_ := mk_ (blk_grown (g := gb179) (o := .cells #[.int .i64 ((rd_T118 l0 x8_1).f0), .int .i64 ((rd_T118 l0 x8_1).f1), .int .i64 ((rd_T118 l0 x8_1).f2), .int .i64 ((rd_T118 l0 x8_1).f3)] 118 (0, 0)) (u_ BK179.out) hg (Kd.R_away HO_6.out (fun _ hk => hk.2))); have n2_ := mk_ (hb); have n3_ := mk_ (ho); clear BK174; clear BK179; clear HB; clear HO_6; have BK174 := n0_; have BK179 := n1_; have HB := n2_; have HO194 := n3_; clear n0_ n1_ n2_ n3_; clear ho hb hg hat))
      go_roundg kj7
      case measure => have := HK1.out; have := HJ7.out; omega
      case rel => exact ⟨(y192), (x7_1), (wrap64 (x8_1 + 1)), (by first | rfl | (simp; done) | (simp [*]; done)), (by first | rfl | (simp; done) | (simp [*]; done)), H', ⟨by have := HK1.out; have := HJ7.out; omega⟩, ⟨by (with_reducible repeat (first | apply Kd.R_alloc | apply Kd.R_drewN | apply Kd.R_drew)); exact Kd.R_mono HO194.out (fun _ hk => hk.1)⟩, ⟨u_ BK174.out⟩, ⟨us_ HB.out⟩⟩
     rw [if_pos c47] at H
     have c47b0 : (((rd_T118 l0 x8_1).f1) == a1_1) = true := beq_iff_eq.mpr c47
     have c47b1 : (((rd_T118 l0 x8_1).f1) != a1_1) = false := bne_eq_false_iff_eq.mpr c47
     clear c47
     by_cases c48 : ((rd_T118 l0 x8_1).f0) = a1_0
     ·rw [if_pos c48] at H
      have c48b0 : (((rd_T118 l0 x8_1).f0) == a1_0) = true := beq_iff_eq.mpr c48
      have c48b1 : (((rd_T118 l0 x8_1).f0) != a1_0) = false := bne_eq_false_iff_eq.mpr c48
      clear c48
      have H' := mk_ H
      clear H
      have hnb49 := NB179_174.out
      have hnc49 := NB174_179.out
      obtain ⟨hcz50_0, hcz50_1, hcz50_2, hcz50_3, hfz50_0, hfz50_1, hfz50_2, hfz50_3⟩ := cells4_ BK179.out
      obtain ⟨hcz51_0, hcz51_1, hcz51_2, hcz51_3, hfz51_0, hfz51_1, hfz51_2, hfz51_3⟩ := cells4_ BK174.out
      go_wp2
      go_roundg kj7
      case measure => have := HK1.out; have := HJ7.out; omega
      case rel => exact ⟨(x6_1), (x7_1), (wrap64 (x8_1 + 1)), (by first | rfl | (simp; done) | (simp [*]; done)), (by first | rfl | (simp; done) | (simp [*]; done)), H', ⟨by have := HK1.out; have := HJ7.out; omega⟩, ⟨by (with_reducible repeat (first | apply Kd.R_alloc | apply Kd.R_drewN | apply Kd.R_drew)); exact Kd.R_mono HO_6.out (fun _ hk => hk.1)⟩, ⟨u_ BK174.out⟩, ⟨us_ HB.out⟩⟩
     rw [if_neg c48] at H
     have c48b0 : (((rd_T118 l0 x8_1).f0) == a1_0) = false := beq_eq_false_iff_ne.mpr c48
     have c48b1 : (((rd_T118 l0 x8_1).f0) != a1_0) = true := bne_iff_ne.mpr c48
     by_cases c52 : x6_1.length < 4398046511104
     rotate_left
     ·rw [if_neg c52] at H
      exact absurd H (by simp)
     rw [if_pos c52] at H
     have LMc52 := mk_ c52
     clear c52
     obtain ⟨y189, hy189⟩ : ∃ y_ : List (S118), y_ = (x6_1 ++ [(⟨((rd_T118 l0 x8_1).f0), ((rd_T118 l0 x8_1).f1), ((rd_T118 l0 x8_1).f2), ((rd_T118 l0 x8_1).f3)⟩ : S118)]) := ⟨_, rfl⟩
     replace H : (spec_RoutePut.l0 kj7 l0 y189 x7_1 (wrap64 (x8_1 + 1)) a1_0 a1_1 a1_2 a1_3) = some (r1, r2) := by first | (rw [hy189]; with_reducible exact H) | (have H2_ := (Option.bind_some _ _).symm.trans H; rw [hy189]; with_reducible exact H2_) | (have H2_ := (Option.bind_some _ _).symm.trans H; with_reducible exact H2_) | with_reducible exact H | (rw [hy189]; exact H) | exact H
     have Ny189 := mk_ hy189
     clear hy189
     have H' := mk_ H
     clear H
     have hnb53 := NB179_174.out
     have hnc53 := NB174_179.out
     obtain ⟨hcz54_0, hcz54_1, hcz54_2, hcz54_3, hfz54_0, hfz54_1, hfz54_2, hfz54_3⟩ := cells4_ BK179.out
     obtain ⟨hcz55_0, hcz55_1, hcz55_2, hcz55_3, hfz55_0, hfz55_1, hfz55_2, hfz55_3⟩ := cells4_ BK174.out
     go_wp2_with (first | ((with_reducible refine gate_builtin (b := .append) (xs := #[.tmp 60, .tmp 62]) rfl ?_); at_builtin; refine Kd.R_append k118 (w0 := w) w.heap.size rfl (.tmp 60) (.tmp 62) 77 118 (.agg #[(.int .i64 0), (.int .i64 0), (.int .i64 0), (.int .i64 0)]) 32 rfl Try.underlying77 info118 rfl (by decide) (by omega) u6 x6_1 (⟨((rd_T118 l0 x8_1).f0), ((rd_T118 l0 x8_1).f1), ((rd_T118 l0 x8_1).f2), ((rd_T118 l0 x8_1).f3)⟩ : S118) [.int .i64 ((rd_T118 l0 x8_1).f0), .int .i64 ((rd_T118 l0 x8_1).f1), .int .i64 ((rd_T118 l0 x8_1).f2), .int .i64 ((rd_T118 l0 x8_1).f3)] (fun k_ => k_ ≠ gb174 ∧ k_ ≠ gb179) (fun _ => False) rfl rfl ?aP (fun _ hk => hk.elim) ?aF ?aO ?aB ?aS ?aL ?_; (case aP => exact k118_mkM _ _ _ (⟨((rd_T118 l0 x8_1).f0), ((rd_T118 l0 x8_1).f1), ((rd_T118 l0 x8_1).f2), ((rd_T118 l0 x8_1).f3)⟩ : S118)); (case aB => exact (us_ HB.out)); (case aF => exact (fun k_ hk => ⟨Kd.freshB (g := gb174) (o := .cells #[.int .i64 a1_0, .int .i64 a1_1, .int .i64 a1_2, .int .i64 a1_3] 118 (0, 0)) (u_ BK174.out) k_ hk, Kd.freshB (g := gb179) (o := .cells #[.int .i64 ((rd_T118 l0 x8_1).f0), .int .i64 ((rd_T118 l0 x8_1).f1), .int .i64 ((rd_T118 l0 x8_1).f2), .int .i64 ((rd_T118 l0 x8_1).f3)] 118 (0, 0)) (u_ BK179.out) k_ hk⟩)); (case aO => exact (Kd.ur_ HO_6.out)); (case aS => exact (below_size (us_ HB.out))); (case aL => have := LMc52.out; omega); intro v190 w56 ho hb hg hat; rw [← Ny189.out] at ho; have n0_ := mk_ (blk_grown (g := gb174) (o := .cells #[.int .i64 a1_0, .int .i64 a1_1, .int .i64 a1_2, .int .i64 a1_3] 118 (0, 0)) (u_ BK174.out) hg (Kd.R_away HO_6.out (fun _ hk => hk.1))); have n1_ := mk_ (blk_grown (g := gb179) (o := .cells #[.int .i64 ((rd_T118 l0 x8_1).f0), .int .i64 ((rd_T118 l0 x8_1).f1), .int .i64 ((rd_T118 l0 x8_1).f2), .int .i64 ((rd_T118 l0 x8_1).f3)] 118 (0, 0)) (u_ BK179.out) hg (Kd.R_away HO_6.out (fun _ hk => hk.2))); have n2_ := mk_ (hb); have n3_ := mk_ (ho); clear BK174; clear BK179; clear HB; clear HO_6; have BK174 := n0_; have BK179 := n1_; have HB := n2_; have HO191 := n3_; clear n0_ n1_ n2_ n3_; clear ho hb hg hat))
     go_roundg kj7
     case measure => have := HK1.out; have := HJ7.out; omega
     case rel => exact ⟨(y189), (x7_1), (wrap64 (x8_1 + 1)), (by first | rfl | (simp; done) | (simp [*]; done)), (by first | rfl | (simp; done) | (simp [*]; done)), H', ⟨by have := HK1.out; have := HJ7.out; omega⟩, ⟨by (with_reducible repeat (first | apply Kd.R_alloc | apply Kd.R_drewN | apply Kd.R_drew)); exact Kd.R_mono HO191.out (fun _ hk => hk.1)⟩, ⟨u_ BK174.out⟩, ⟨us_ HB.out⟩⟩

end Go.Proofs.Ytfcocnhkimbpbac.MFnNetOk
