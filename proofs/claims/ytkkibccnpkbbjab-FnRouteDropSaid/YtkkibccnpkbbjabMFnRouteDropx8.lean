/- Functions that the law FnRouteDrop reaches, each with the proof that the machine's call comes to just its answer; no conditions but those that each theorem states. Printed by a program of this session over the kit's print. -/
import Derived.Test.YtkkibccnpkbbjabMFnRouteDropx0
import Derived.Test.YtkkibccnpkbbjabMFnRouteDropx1
import Derived.Test.YtkkibccnpkbbjabMFnRouteDropx4
import Derived.Test.YtkkibccnpkbbjabMFnRouteDropx7
namespace Go.Proofs.Ytkkibccnpkbbjab.MFnRouteDrop
open Go.RowKit Go.Proofs.YtkkibccnpkbbjabV.PrintWords Go.Proofs.YtkkibccnpkbbjabV.PrintLast Go.Proofs.YtkkibccnpkbbjabV.PrintMore
attribute [local go_sem] max2_int min2_int max_two min_two max_three min_three max_four min_four   -- for this text's walks alone
set_option linter.unusedVariables false
set_option linter.unusedSimpArgs false

attribute [local go_sem high] eqA29
/-! ### impl_Route_83: function 83 -/
def impl_Route_83.f (l0 : List (S29)) : Option (List (S29)) := if l0.length < 4398046511104 then some l0 else none
set_option maxHeartbeats 400000 in
set_option maxRecDepth 100000 in
theorem impl_Route_83.calls (A0 : Option Addr) (c0 : Nat) (l0 : List (S29)) (r : List (S29)) (w : World) (hr0 : Kd.C k29 w A0 l0.length l0) (hc0 : l0.length ≤ c0) (h : impl_Route_83.f l0 = some r) :
    Calls Try.prog 83 #[.slice A0 l0.length c0] w fun e w' => ∃ v0_ : Value, e = .returned (v0_) ∧ Kd.R k29 29 w' w.heap.size (fun _ => True) v0_ r ∧ Below w.heap.size w w' := by
 have hlim : l0.length < 4398046511104 := by
   unfold impl_Route_83.f at h
   by_cases hl : l0.length < 4398046511104
   · exact hl
   · rw [if_neg hl] at h; cases h
 obtain rfl : l0 = r := by
   unfold impl_Route_83.f at h
   rw [if_pos hlim] at h
   exact Option.some.inj h
 clear h
 have HR := Aside0.mk hr0
 have HL := Aside0.mk hlim
 have HI := Aside0.mk info29
 clear hr0 hc0 hlim
 by_cases hz : l0.length = 0
 ·have hz1 : ((l0.length : Int) == 0) = true := by simpa using hz
  have HZ := Aside0.mk hz
  clear hz
  go_enter Try.func83, Try.ntmps83
  go_wp2_with fail
  go_ret
  refine ⟨_, rfl, ?_, Below.refl _ _⟩
  rw [List.eq_nil_of_length_eq_zero HZ.out]
  exact Kd.R_nil _ _ _ _ _
 ·have hz1 : ((l0.length : Int) == 0) = false := by simpa using hz
  clear hz
  go_enter Try.func83, Try.ntmps83
  go_wp2_with (first | (at_builtin; refine Kd.R_append_rows k29 (w0 := w) w.heap.size rfl (.const (.slice none 0 0)) (.tmp 6) 32 29 (.agg #[(.int .i64 0), (.int .i64 0), (.int .i64 0), (.int .i64 0)]) 32 rfl Try.underlying32 HI.out rfl (by decide) (by omega) (.slice none 0 0) ([] : List (S29)) l0 _ _ _ (fun _ => True) (fun _ => False) rfl rfl ?aO ?aR (fun _ _ h => h) (fun _ h => h.elim) ?aF ?aB ?aS ?aL ?_; (case aO => exact Kd.R_nil _ _ _ _ _); (case aR => exact HR.out); (case aF => exact fun _ _ => trivial); (case aB => exact Below.refl _ _); (case aS => exact Nat.le_refl _); (case aL => have := HL.out; simp; omega); intro v1 w1 ho hb hg hat; rw [List.nil_append] at ho; obtain ⟨A1, c1, hv1, hl1, hc1⟩ := Kd.R_reads ho; subst hv1; have HO := Aside0.mk ho; have HB := Aside0.mk hb; have hn1 := hc1.2.1; clear ho hb hg hat hc1) | (go_at_call 116; (with_reducible refine (impl_Route_116.calls _ _ _ _ hl1 hn1).mono ?_); rintro e w' ⟨rfl, ⟨nd, rfl⟩⟩))
  go_ret
  exact ⟨_, rfl, Kd.R_clip (by exact HO.out) rfl, by (first | exact HB.out | exact pw_below_drewN HB.out _)⟩

-- NOT PRINTED: function 39 (impl_RouteDrop)

/-! ### spec_RouteDrop: function 40 -/
mutual
def spec_RouteDrop.l0 : Nat → List (S29) → Int → Int → List (S29) → Bool → Int → Option ((List (S29)) × Bool)
 | 0, _, _, _, _, _, _ => none
 | k + 1, x0, x1, x2, x8, x9, x10 => if x10 < (x0.length : Int) then ((spec_RoutesOk.f k x0).bind fun t271 => (spec_RouteDrop.j1 k x0 x1 x2 x8 x9 x10 t271)) else (spec_RouteDrop.j1 k x0 x1 x2 x8 x9 x10 false)
def spec_RouteDrop.j1 : Nat → List (S29) → Int → Int → List (S29) → Bool → Int → Bool → Option ((List (S29)) × Bool)
 | 0, _, _, _, _, _, _, _ => none
 | k + 1, x0, x1, x2, x8, x9, x10, x19 => if x19 = true then (if 0 ≤ x10 then (if x10 < (x0.length : Int) then (if ((rd_T29 x0 x10).f0) = x1 then (if ((rd_T29 x0 x10).f1) = x2 then (spec_RouteDrop.l0 k x0 x1 x2 x8 true (wrap64 (x10 + 1))) else (if x8.length < 4398046511104 then (spec_RouteDrop.l0 k x0 x1 x2 (x8 ++ [(⟨(rd_T29 x0 x10).f0, (rd_T29 x0 x10).f1, (rd_T29 x0 x10).f2, (rd_T29 x0 x10).f3⟩ : S29)]) x9 (wrap64 (x10 + 1))) else (none))) else (if x8.length < 4398046511104 then (spec_RouteDrop.l0 k x0 x1 x2 (x8 ++ [(⟨(rd_T29 x0 x10).f0, (rd_T29 x0 x10).f1, (rd_T29 x0 x10).f2, (rd_T29 x0 x10).f3⟩ : S29)]) x9 (wrap64 (x10 + 1))) else (none))) else (none)) else (none)) else (some (x8, x9))
end
def spec_RouteDrop.f (k : Nat) (l0 : List (S29)) (a1 : Int) (a2 : Int) : Option ((List (S29)) × Bool) := spec_RouteDrop.l0 k l0 a1 a2 (([] : List (S29))) false 0
theorem spec_RouteDrop.mono_l : ∀ k, (∀ y0 y1 y2 y3 y4 y5, LeO (spec_RouteDrop.l0 k y0 y1 y2 y3 y4 y5) (spec_RouteDrop.l0 (k + 1) y0 y1 y2 y3 y4 y5)) ∧ (∀ y0 y1 y2 y3 y4 y5 y6, LeO (spec_RouteDrop.j1 k y0 y1 y2 y3 y4 y5 y6) (spec_RouteDrop.j1 (k + 1) y0 y1 y2 y3 y4 y5 y6))
 | 0 => ⟨fun _ _ _ _ _ _ r h => by simp [spec_RouteDrop.l0] at h, fun _ _ _ _ _ _ _ r h => by simp [spec_RouteDrop.j1] at h⟩
 | k + 1 => by
  obtain ⟨ih0, ih1⟩ := spec_RouteDrop.mono_l k
  refine ⟨?_, ?_⟩
  ·intro y0 y1 y2 y3 y4 y5
   unfold spec_RouteDrop.l0
   repeat' first
   | (with_reducible exact ih0 _ _ _ _ _ _)
   | (with_reducible exact ih1 _ _ _ _ _ _ _)
   | (with_reducible exact spec_RoutesOk.mono _ _)
   | (with_reducible exact LeO.refl _)
   | (with_reducible exact LeO.none _)
   | (with_reducible refine LeO.ite ?_ ?_)
   | (with_reducible refine LeO.bind ?_ (fun _ => ?_))
   | exact ih0 _ _ _ _ _ _
   | exact ih1 _ _ _ _ _ _ _
   | exact spec_RoutesOk.mono _ _
   | exact LeO.none _
   | refine LeO.ite ?_ ?_
   | refine LeO.bind ?_ (fun _ => ?_)
  ·intro y0 y1 y2 y3 y4 y5 y6
   unfold spec_RouteDrop.j1
   repeat' first
   | (with_reducible exact ih0 _ _ _ _ _ _)
   | (with_reducible exact ih1 _ _ _ _ _ _ _)
   | (with_reducible exact spec_RoutesOk.mono _ _)
   | (with_reducible exact LeO.refl _)
   | (with_reducible exact LeO.none _)
   | (with_reducible refine LeO.ite ?_ ?_)
   | (with_reducible refine LeO.bind ?_ (fun _ => ?_))
   | exact ih0 _ _ _ _ _ _
   | exact ih1 _ _ _ _ _ _ _
   | exact spec_RoutesOk.mono _ _
   | exact LeO.none _
   | refine LeO.ite ?_ ?_
   | refine LeO.bind ?_ (fun _ => ?_)
theorem spec_RouteDrop.mono : ∀ a0 a1 a2 k, LeO (spec_RouteDrop.f k a0 a1 a2) (spec_RouteDrop.f (k + 1) a0 a1 a2) := by
 intro a0 a1 a2 k
 obtain ⟨ih0, ih1⟩ := spec_RouteDrop.mono_l k
 unfold spec_RouteDrop.f
 repeat' first
   | (with_reducible exact ih0 _ _ _ _ _ _)
   | (with_reducible exact ih1 _ _ _ _ _ _ _)
   | (with_reducible exact spec_RoutesOk.mono _ _)
   | (with_reducible exact LeO.refl _)
   | (with_reducible exact LeO.none _)
   | (with_reducible refine LeO.ite ?_ ?_)
   | (with_reducible refine LeO.bind ?_ (fun _ => ?_))
   | exact ih0 _ _ _ _ _ _
   | exact ih1 _ _ _ _ _ _ _
   | exact spec_RoutesOk.mono _ _
   | exact LeO.none _
   | refine LeO.ite ?_ ?_
   | refine LeO.bind ?_ (fun _ => ?_)
set_option maxHeartbeats 8000000 in
set_option maxRecDepth 100000 in
theorem spec_RouteDrop.calls (k : Nat) (A0 : Option Addr) (c0 : Nat) (l0 : List (S29)) (a1 : Int) (a2 : Int) (r1 : List (S29)) (r2 : Bool) (w : World) (hr0 : Kd.C k29 w A0 l0.length l0) (hc0 : l0.length ≤ c0) (h : spec_RouteDrop.f k l0 a1 a2 = some (r1, r2)) :
  Calls Try.prog 40 #[.slice A0 l0.length c0, .int .i64 a1, .int .i64 a2] w fun e w' => ∃ v0_ : Value, e = .returned (.tuple #[v0_, .bool r2]) ∧ Kd.R k29 29 w' w.heap.size (fun _ => True) v0_ r1 ∧ Below w.heap.size w w' := by
 have hu29 := Try.underlying29
 have HR0 := mk_ hr0
 have HC0 := mk_ hc0
 clear hr0 hc0
 have HB := mk_ (Below.refl w.heap.size w)
 have H : (spec_RouteDrop.l0 k l0 a1 a2 (([] : List (S29))) false 0) = some (r1, r2) := h
 clear h
 obtain ⟨y268, hy268⟩ : ∃ y_ : List (S29), y_ = (([] : List (S29))) := ⟨_, rfl⟩
 replace H : (spec_RouteDrop.l0 k l0 a1 a2 y268 false 0) = some (r1, r2) := by first | (rw [hy268]; with_reducible exact H) | (have H2_ := (Option.bind_some _ _).symm.trans H; rw [hy268]; with_reducible exact H2_) | (have H2_ := (Option.bind_some _ _).symm.trans H; with_reducible exact H2_) | with_reducible exact H | (rw [hy268]; exact H) | exact H
 have Ny268 := mk_ hy268
 clear hy268
 have H' := mk_ H
 clear H
 go_enter Try.func40, Try.ntmps40
 go_wp2_with (first | ((with_reducible refine gate_dst (N := 11) rfl ?_); refine Kd.R_lit k29 _ 29 ?hg (N := 11) ?hd (xs := ([] : List (S29))) (inner := []) (ok := fun _ => True) (okp := fun _ => True) ?hr ?hp (fun _ hk => hk) trivial (Below.refl _ _) (Nat.le_refl _) (by simp) ?_; (case hd => rfl); (case hg => rfl); (case hr => first | (go_simp; done) | (go_simp; rfl)); (case hp => exact (Reps.none _ _)); intro v269 w4 ho5 hb hg_ hnew_; clear hg_ hnew_; (first | rw [← Ny268.out] at ho5 | (simp only [Int.reduceToNat] at ho5; rw [← Ny268.out] at ho5)); have HO270 := mk_ (Kd.R_lower ho5 (below_size (ub_ HB.out))); replace HB := mk_ (below_step (ub_ HB.out) hb); clear hb ho5))
 go_loopg [8, 9, 10] k (fun kq v8 v9 v10 w' => ∃ (x8_1 : List (S29)) (x9_1 : Bool) (x10_1 : Int), v9 = .bool x9_1 ∧ v10 = .int .i64 x10_1 ∧ Aside0 (spec_RouteDrop.l0 kq l0 a1 a2 x8_1 x9_1 x10_1 = some (r1, r2)) ∧ Aside0 (kq ≤ k) ∧ Aside0 (Kd.R k29 29 w' w.heap.size (fun _ => True) v8 x8_1) ∧ Aside0 (Below w.heap.size w w'))
 case atStart => exact ⟨(y268), (false), (0), (by first | rfl | (simp; done) | (simp [*]; done)), (by first | rfl | (simp; done) | (simp [*]; done)), H', ⟨Nat.le_refl _⟩, ⟨Kd.ur_ HO270.out⟩, ⟨ub_ HB.out⟩⟩
 case round =>
  clear H'
  try clear p2
  try clear c4
  obtain ⟨x8_1, x9_1, x10_1, rfl, rfl, HA, HK1, HO_8, HB⟩ := hrel
  cases gk with
  | zero => exact absurd HA.out (by simp [spec_RouteDrop.l0])
  | succ k1 =>
   have H := HA.out
   clear HA
   simp only [spec_RouteDrop.l0] at H
   have HC6 := mk_ H
   clear H
   go_upto_region 4 with (fail)
   go_cut [19] (fun v19 wc => ∃ (kq : Nat) (x19_5 : Bool), v19 = .bool x19_5 ∧ Aside0 (spec_RouteDrop.j1 kq l0 a1 a2 x8_1 x9_1 x10_1 x19_5 = some (r1, r2)) ∧ Aside0 (kq ≤ k1) ∧ Aside0 (Kd.R k29 29 wc w.heap.size (fun _ => True) u8 x8_1) ∧ Aside0 (Below w.heap.size w wc))
   case first =>
    have H := HC6.out
    clear HC6
    by_cases c7 : x10_1 < (l0.length : Int)
    rotate_left
    ·rw [if_neg c7] at H
     have c7b0 : decide (x10_1 < (l0.length : Int)) = false := decide_eq_false c7
     clear c7
     (first | rw [c7b0] | (simp only [i64_w, i32_w]; rw [c7b0]) | skip)
     have H' := mk_ H
     clear H
     go_wp2
     go_meet
     case rel => exact ⟨_, (false), (by first | rfl | (simp; done) | (simp [*]; done)), H', ⟨by have := HK1.out; first | omega | exact Nat.le_refl _⟩, ⟨Kd.ur_ HO_8.out⟩, ⟨ub_ HB.out⟩⟩
    rw [if_pos c7] at H
    have c7b0 : decide (x10_1 < (l0.length : Int)) = true := decide_eq_true c7
    clear c7
    (first | rw [c7b0] | (simp only [i64_w, i32_w]; rw [c7b0]) | skip)
    replace H := Option.bind_eq_some_iff.mp H
    obtain ⟨t271, A80, H⟩ := H
    replace H : (spec_RouteDrop.j1 k1 l0 a1 a2 x8_1 x9_1 x10_1 t271) = some (r1, r2) := H
    have A8 := mk_ A80
    clear A80
    have H' := mk_ H
    clear H
    go_wp2_with (first | (go_at_call 84; (with_reducible refine (spec_RoutesOk.calls k1 _ _ l0 t271 _ ?side1 ?side2 A8.out).mono ?_); (case side1 => repeat (first | exact (Kd.C_below HR0.out HB.out) | (with_reducible refine Kd.C_alloc ?_ _) | (with_reducible refine Kd.C_drewN ?_ _) | (with_reducible refine Kd.C_drew ?_))); (case side2 => exact HC0.out); rintro e w9 ⟨rfl, hb⟩; replace HO_8 := mk_ (Kd.R_below (Kd.ur_ HO_8.out) hb); replace HB := mk_ (below_step (ub_ HB.out) hb)))
    go_meet
    case rel => exact ⟨_, (t271), (by first | rfl | (simp; done) | (simp [*]; done)), H', ⟨by have := HK1.out; first | omega | exact Nat.le_refl _⟩, ⟨Kd.ur_ HO_8.out⟩, ⟨ub_ HB.out⟩⟩
   case rest =>
    clear HC6
    try clear p2
    try clear c4
    try clear c7
    try clear c7b0
    try clear p2
    obtain ⟨kq, x19_5, rfl, HA, HJ5, HO_8, HB⟩ := hcut
    cases kq with
    | zero => exact absurd HA.out (by simp [spec_RouteDrop.j1])
    | succ kj5 =>
     have H := HA.out
     clear HA
     simp only [spec_RouteDrop.j1] at H
     by_cases c10 : x19_5 = true
     rotate_left
     ·replace c10 := Bool.eq_false_iff.mpr c10
      subst c10
      have H1 : (some (x8_1, x9_1)) = some (r1, r2) := by rw [if_neg (show ¬ (false = true) by decide)] at H; exact H
      clear H
      have H := H1
      clear H1
      simp only [Option.some.injEq, Prod.mk.injEq] at H
      obtain ⟨rfl, rfl⟩ := H
      go_wp2
      go_ret2
      exact ⟨_, by first | rfl | (simp [errW_none, errW_some] <;> rfl) | (simp [*, errW_none, errW_some] <;> rfl), by (with_reducible repeat (first | apply Kd.R_alloc | apply Kd.R_drewN | apply Kd.R_drew)); exact HO_8.out, by repeat (first | (with_reducible first | exact HB.out | apply na_ | apply nn_ | apply nw_) | exact HB.out)⟩
     subst c10
     rw [if_pos rfl] at H
     by_cases c11 : 0 ≤ x10_1
     rotate_left
     ·rw [if_neg c11] at H
      exact absurd H (by simp)
     rw [if_pos c11] at H
     have c11b0 : decide (0 ≤ x10_1) = true := decide_eq_true c11
     clear c11
     by_cases c12 : x10_1 < (l0.length : Int)
     rotate_left
     ·rw [if_neg c12] at H
      exact absurd H (by simp)
     rw [if_pos c12] at H
     have c12b0 : decide (x10_1 < (l0.length : Int)) = true := decide_eq_true c12
     clear c12
     by_cases c13 : ((rd_T29 l0 x10_1).f0) = a1
     rotate_left
     ·rw [if_neg c13] at H
      have c13b0 : (((rd_T29 l0 x10_1).f0) == a1) = false := beq_eq_false_iff_ne.mpr c13
      have c13b1 : (((rd_T29 l0 x10_1).f0) != a1) = true := bne_iff_ne.mpr c13
      by_cases c17 : x8_1.length < 4398046511104
      rotate_left
      ·rw [if_neg c17] at H
       exact absurd H (by simp)
      rw [if_pos c17] at H
      have LMc17 := mk_ c17
      clear c17
      obtain ⟨y279, hy279⟩ : ∃ y_ : List (S29), y_ = (x8_1 ++ [(⟨(rd_T29 l0 x10_1).f0, (rd_T29 l0 x10_1).f1, (rd_T29 l0 x10_1).f2, (rd_T29 l0 x10_1).f3⟩ : S29)]) := ⟨_, rfl⟩
      replace H : (spec_RouteDrop.l0 kj5 l0 a1 a2 y279 x9_1 (wrap64 (x10_1 + 1))) = some (r1, r2) := by first | (rw [hy279]; with_reducible exact H) | (have H2_ := (Option.bind_some _ _).symm.trans H; rw [hy279]; with_reducible exact H2_) | (have H2_ := (Option.bind_some _ _).symm.trans H; with_reducible exact H2_) | with_reducible exact H | (rw [hy279]; exact H) | exact H
      have Ny279 := mk_ hy279
      clear hy279
      have H' := mk_ H
      clear H
      have p272 : 0 ≤ (x10_1 : Int) := of_decide_eq_true (by first | (with_reducible assumption) | assumption)
      have q272 : x10_1 < (l0.length : Int) := of_decide_eq_true (by first | (with_reducible assumption) | assumption)
      obtain ⟨ad272, e272, hx272_0, hx272_1, hx272_2, hx272_3⟩ := at_T29 HR0.out x10_1 p272 q272
      cases e272
      replace hx272_0 := (HB.out.cell (lc_ w _ hx272_0)).trans hx272_0
      replace hx272_1 := (HB.out.cell (lc_ w _ hx272_1)).trans hx272_1
      replace hx272_2 := (HB.out.cell (lc_ w _ hx272_2)).trans hx272_2
      replace hx272_3 := (HB.out.cell (lc_ w _ hx272_3)).trans hx272_3
      replace p272 := eq_true p272
      replace q272 := eq_true q272
      have p278 : 0 ≤ (x10_1 : Int) := of_decide_eq_true (by first | (with_reducible assumption) | assumption)
      have q278 : x10_1 < (l0.length : Int) := of_decide_eq_true (by first | (with_reducible assumption) | assumption)
      obtain ⟨ad278, e278, hx278_0, hx278_1, hx278_2, hx278_3⟩ := at_T29 HR0.out x10_1 p278 q278
      obtain rfl : ad272 = ad278 := (by injection e278)
      replace hx278_0 := (HB.out.cell (lc_ w _ hx278_0)).trans hx278_0
      replace hx278_1 := (HB.out.cell (lc_ w _ hx278_1)).trans hx278_1
      replace hx278_2 := (HB.out.cell (lc_ w _ hx278_2)).trans hx278_2
      replace hx278_3 := (HB.out.cell (lc_ w _ hx278_3)).trans hx278_3
      replace p278 := eq_true p278
      replace q278 := eq_true q278
      go_wp2_with (first | ((with_reducible refine gate_builtin (b := .append) (xs := #[.tmp 38, .tmp 43]) rfl ?_); at_builtin; refine Kd.R_append k29 (w0 := w) w.heap.size rfl (.tmp 38) (.tmp 43) 32 29 (.agg #[(.int .i64 0), (.int .i64 0), (.int .i64 0), (.int .i64 0)]) 32 rfl Try.underlying32 info29 rfl (by decide) (by omega) u8 x8_1 (⟨(rd_T29 l0 x10_1).f0, (rd_T29 l0 x10_1).f1, (rd_T29 l0 x10_1).f2, (rd_T29 l0 x10_1).f3⟩ : S29) [.int .i64 ((rd_T29 l0 x10_1).f0), .int .i64 ((rd_T29 l0 x10_1).f1), .int .i64 ((rd_T29 l0 x10_1).f2), .int .i64 ((rd_T29 l0 x10_1).f3)] (fun _ => True) (fun _ => False) rfl rfl ?aP (fun _ hk => hk.elim) ?aF ?aO ?aB ?aS ?aL ?_; (case aP => exact k29_mkM _ _ _ (⟨(rd_T29 l0 x10_1).f0, (rd_T29 l0 x10_1).f1, (rd_T29 l0 x10_1).f2, (rd_T29 l0 x10_1).f3⟩ : S29)); (case aB => exact (ub_ HB.out)); (case aF => exact (fun _ _ => trivial)); (case aO => exact (Kd.ur_ HO_8.out)); (case aS => exact (below_size (ub_ HB.out))); (case aL => have := LMc17.out; omega); intro v280 w18 ho hb hg hat; rw [← Ny279.out] at ho; replace HB := mk_ (hb); have HO281 := mk_ (ho); clear HO_8; clear ho hb hg hat))
      go_roundg kj5
      case measure => have := HK1.out; have := HJ5.out; omega
      case rel => exact ⟨(y279), (x9_1), (wrap64 (x10_1 + 1)), (by first | rfl | (simp; done) | (simp [*]; done)), (by first | rfl | (simp; done) | (simp [*]; done)), H', ⟨by have := HK1.out; have := HJ5.out; omega⟩, ⟨Kd.ur_ HO281.out⟩, ⟨ub_ HB.out⟩⟩
     rw [if_pos c13] at H
     have c13b0 : (((rd_T29 l0 x10_1).f0) == a1) = true := beq_iff_eq.mpr c13
     have c13b1 : (((rd_T29 l0 x10_1).f0) != a1) = false := bne_eq_false_iff_eq.mpr c13
     clear c13
     by_cases c14 : ((rd_T29 l0 x10_1).f1) = a2
     ·rw [if_pos c14] at H
      have c14b0 : (((rd_T29 l0 x10_1).f1) == a2) = true := beq_iff_eq.mpr c14
      have c14b1 : (((rd_T29 l0 x10_1).f1) != a2) = false := bne_eq_false_iff_eq.mpr c14
      clear c14
      have H' := mk_ H
      clear H
      have p272 : 0 ≤ (x10_1 : Int) := of_decide_eq_true (by first | (with_reducible assumption) | assumption)
      have q272 : x10_1 < (l0.length : Int) := of_decide_eq_true (by first | (with_reducible assumption) | assumption)
      obtain ⟨ad272, e272, hx272_0, hx272_1, hx272_2, hx272_3⟩ := at_T29 HR0.out x10_1 p272 q272
      cases e272
      replace hx272_0 := (HB.out.cell (lc_ w _ hx272_0)).trans hx272_0
      replace hx272_1 := (HB.out.cell (lc_ w _ hx272_1)).trans hx272_1
      replace hx272_2 := (HB.out.cell (lc_ w _ hx272_2)).trans hx272_2
      replace hx272_3 := (HB.out.cell (lc_ w _ hx272_3)).trans hx272_3
      replace p272 := eq_true p272
      replace q272 := eq_true q272
      have p273 : 0 ≤ (x10_1 : Int) := of_decide_eq_true (by first | (with_reducible assumption) | assumption)
      have q273 : x10_1 < (l0.length : Int) := of_decide_eq_true (by first | (with_reducible assumption) | assumption)
      obtain ⟨ad273, e273, hx273_0, hx273_1, hx273_2, hx273_3⟩ := at_T29 HR0.out x10_1 p273 q273
      obtain rfl : ad272 = ad273 := (by injection e273)
      replace hx273_0 := (HB.out.cell (lc_ w _ hx273_0)).trans hx273_0
      replace hx273_1 := (HB.out.cell (lc_ w _ hx273_1)).trans hx273_1
      replace hx273_2 := (HB.out.cell (lc_ w _ hx273_2)).trans hx273_2
      replace hx273_3 := (HB.out.cell (lc_ w _ hx273_3)).trans hx273_3
      replace p273 := eq_true p273
      replace q273 := eq_true q273
      go_wp2
      go_roundg kj5
      case measure => have := HK1.out; have := HJ5.out; omega
      case rel => exact ⟨(x8_1), (true), (wrap64 (x10_1 + 1)), (by first | rfl | (simp; done) | (simp [*]; done)), (by first | rfl | (simp; done) | (simp [*]; done)), H', ⟨by have := HK1.out; have := HJ5.out; omega⟩, ⟨Kd.ur_ HO_8.out⟩, ⟨ub_ HB.out⟩⟩
     rw [if_neg c14] at H
     have c14b0 : (((rd_T29 l0 x10_1).f1) == a2) = false := beq_eq_false_iff_ne.mpr c14
     have c14b1 : (((rd_T29 l0 x10_1).f1) != a2) = true := bne_iff_ne.mpr c14
     by_cases c15 : x8_1.length < 4398046511104
     rotate_left
     ·rw [if_neg c15] at H
      exact absurd H (by simp)
     rw [if_pos c15] at H
     have LMc15 := mk_ c15
     clear c15
     obtain ⟨y275, hy275⟩ : ∃ y_ : List (S29), y_ = (x8_1 ++ [(⟨(rd_T29 l0 x10_1).f0, (rd_T29 l0 x10_1).f1, (rd_T29 l0 x10_1).f2, (rd_T29 l0 x10_1).f3⟩ : S29)]) := ⟨_, rfl⟩
     replace H : (spec_RouteDrop.l0 kj5 l0 a1 a2 y275 x9_1 (wrap64 (x10_1 + 1))) = some (r1, r2) := by first | (rw [hy275]; with_reducible exact H) | (have H2_ := (Option.bind_some _ _).symm.trans H; rw [hy275]; with_reducible exact H2_) | (have H2_ := (Option.bind_some _ _).symm.trans H; with_reducible exact H2_) | with_reducible exact H | (rw [hy275]; exact H) | exact H
     have Ny275 := mk_ hy275
     clear hy275
     have H' := mk_ H
     clear H
     have p272 : 0 ≤ (x10_1 : Int) := of_decide_eq_true (by first | (with_reducible assumption) | assumption)
     have q272 : x10_1 < (l0.length : Int) := of_decide_eq_true (by first | (with_reducible assumption) | assumption)
     obtain ⟨ad272, e272, hx272_0, hx272_1, hx272_2, hx272_3⟩ := at_T29 HR0.out x10_1 p272 q272
     cases e272
     replace hx272_0 := (HB.out.cell (lc_ w _ hx272_0)).trans hx272_0
     replace hx272_1 := (HB.out.cell (lc_ w _ hx272_1)).trans hx272_1
     replace hx272_2 := (HB.out.cell (lc_ w _ hx272_2)).trans hx272_2
     replace hx272_3 := (HB.out.cell (lc_ w _ hx272_3)).trans hx272_3
     replace p272 := eq_true p272
     replace q272 := eq_true q272
     have p273 : 0 ≤ (x10_1 : Int) := of_decide_eq_true (by first | (with_reducible assumption) | assumption)
     have q273 : x10_1 < (l0.length : Int) := of_decide_eq_true (by first | (with_reducible assumption) | assumption)
     obtain ⟨ad273, e273, hx273_0, hx273_1, hx273_2, hx273_3⟩ := at_T29 HR0.out x10_1 p273 q273
     obtain rfl : ad272 = ad273 := (by injection e273)
     replace hx273_0 := (HB.out.cell (lc_ w _ hx273_0)).trans hx273_0
     replace hx273_1 := (HB.out.cell (lc_ w _ hx273_1)).trans hx273_1
     replace hx273_2 := (HB.out.cell (lc_ w _ hx273_2)).trans hx273_2
     replace hx273_3 := (HB.out.cell (lc_ w _ hx273_3)).trans hx273_3
     replace p273 := eq_true p273
     replace q273 := eq_true q273
     have p274 : 0 ≤ (x10_1 : Int) := of_decide_eq_true (by first | (with_reducible assumption) | assumption)
     have q274 : x10_1 < (l0.length : Int) := of_decide_eq_true (by first | (with_reducible assumption) | assumption)
     obtain ⟨ad274, e274, hx274_0, hx274_1, hx274_2, hx274_3⟩ := at_T29 HR0.out x10_1 p274 q274
     obtain rfl : ad272 = ad274 := (by injection e274)
     replace hx274_0 := (HB.out.cell (lc_ w _ hx274_0)).trans hx274_0
     replace hx274_1 := (HB.out.cell (lc_ w _ hx274_1)).trans hx274_1
     replace hx274_2 := (HB.out.cell (lc_ w _ hx274_2)).trans hx274_2
     replace hx274_3 := (HB.out.cell (lc_ w _ hx274_3)).trans hx274_3
     replace p274 := eq_true p274
     replace q274 := eq_true q274
     go_wp2_with (first | ((with_reducible refine gate_builtin (b := .append) (xs := #[.tmp 38, .tmp 43]) rfl ?_); at_builtin; refine Kd.R_append k29 (w0 := w) w.heap.size rfl (.tmp 38) (.tmp 43) 32 29 (.agg #[(.int .i64 0), (.int .i64 0), (.int .i64 0), (.int .i64 0)]) 32 rfl Try.underlying32 info29 rfl (by decide) (by omega) u8 x8_1 (⟨(rd_T29 l0 x10_1).f0, (rd_T29 l0 x10_1).f1, (rd_T29 l0 x10_1).f2, (rd_T29 l0 x10_1).f3⟩ : S29) [.int .i64 ((rd_T29 l0 x10_1).f0), .int .i64 ((rd_T29 l0 x10_1).f1), .int .i64 ((rd_T29 l0 x10_1).f2), .int .i64 ((rd_T29 l0 x10_1).f3)] (fun _ => True) (fun _ => False) rfl rfl ?aP (fun _ hk => hk.elim) ?aF ?aO ?aB ?aS ?aL ?_; (case aP => exact k29_mkM _ _ _ (⟨(rd_T29 l0 x10_1).f0, (rd_T29 l0 x10_1).f1, (rd_T29 l0 x10_1).f2, (rd_T29 l0 x10_1).f3⟩ : S29)); (case aB => exact (ub_ HB.out)); (case aF => exact (fun _ _ => trivial)); (case aO => exact (Kd.ur_ HO_8.out)); (case aS => exact (below_size (ub_ HB.out))); (case aL => have := LMc15.out; omega); intro v276 w16 ho hb hg hat; rw [← Ny275.out] at ho; replace HB := mk_ (hb); have HO277 := mk_ (ho); clear HO_8; clear ho hb hg hat))
     go_roundg kj5
     case measure => have := HK1.out; have := HJ5.out; omega
     case rel => exact ⟨(y275), (x9_1), (wrap64 (x10_1 + 1)), (by first | rfl | (simp; done) | (simp [*]; done)), (by first | rfl | (simp; done) | (simp [*]; done)), H', ⟨by have := HK1.out; have := HJ5.out; omega⟩, ⟨Kd.ur_ HO277.out⟩, ⟨ub_ HB.out⟩⟩

/-! ### laws_sameRoutes: function 41 -/
def laws_sameRoutes.l0 : Nat → List (S29) → List (S29) → Int → Option (Bool)
 | 0, _, _, _ => none
 | k + 1, x0, x1, x5 => if x5 < (x0.length : Int) then (if 0 ≤ x5 then (if x5 < (x1.length : Int) then (if (!(((rd_T29 x0 x5).f0) == ((rd_T29 x1 x5).f0)) || (!(((rd_T29 x0 x5).f1) == ((rd_T29 x1 x5).f1)) || (!(((rd_T29 x0 x5).f2) == ((rd_T29 x1 x5).f2)) || (!(((rd_T29 x0 x5).f3) == ((rd_T29 x1 x5).f3)))))) = true then (some false) else (laws_sameRoutes.l0 k x0 x1 (wrap64 (x5 + 1)))) else (none)) else (none)) else (some true)
def laws_sameRoutes.f (k : Nat) (l0 : List (S29)) (l1 : List (S29)) : Option (Bool) := if (l0.length : Int) = (l1.length : Int) then (laws_sameRoutes.l0 k l0 l1 0) else (some false)
theorem laws_sameRoutes.mono_l : ∀ k, (∀ y0 y1 y2, LeO (laws_sameRoutes.l0 k y0 y1 y2) (laws_sameRoutes.l0 (k + 1) y0 y1 y2))
 | 0 => fun _ _ _ r h => by simp [laws_sameRoutes.l0] at h
 | k + 1 => by
  have ih0 := laws_sameRoutes.mono_l k
  ·intro y0 y1 y2
   unfold laws_sameRoutes.l0
   repeat' first
   | (with_reducible exact ih0 _ _ _)
   | (with_reducible exact LeO.refl _)
   | (with_reducible exact LeO.none _)
   | (with_reducible refine LeO.ite ?_ ?_)
   | (with_reducible refine LeO.bind ?_ (fun _ => ?_))
   | exact ih0 _ _ _
   | exact LeO.none _
   | refine LeO.ite ?_ ?_
   | refine LeO.bind ?_ (fun _ => ?_)
theorem laws_sameRoutes.mono : ∀ a0 a1 k, LeO (laws_sameRoutes.f k a0 a1) (laws_sameRoutes.f (k + 1) a0 a1) := by
 intro a0 a1 k
 have ih0 := laws_sameRoutes.mono_l k
 unfold laws_sameRoutes.f
 repeat' first
   | (with_reducible exact ih0 _ _ _)
   | (with_reducible exact LeO.refl _)
   | (with_reducible exact LeO.none _)
   | (with_reducible refine LeO.ite ?_ ?_)
   | (with_reducible refine LeO.bind ?_ (fun _ => ?_))
   | exact ih0 _ _ _
   | exact LeO.none _
   | refine LeO.ite ?_ ?_
   | refine LeO.bind ?_ (fun _ => ?_)
set_option maxHeartbeats 8000000 in
set_option maxRecDepth 100000 in
theorem laws_sameRoutes.calls (k : Nat) (A0 : Option Addr) (c0 : Nat) (l0 : List (S29)) (A1 : Option Addr) (c1 : Nat) (l1 : List (S29)) (r : Bool) (w : World) (hr0 : Kd.C k29 w A0 l0.length l0) (hc0 : l0.length ≤ c0) (hr1 : Kd.C k29 w A1 l1.length l1) (hc1 : l1.length ≤ c1) (h : laws_sameRoutes.f k l0 l1 = some r) :
  Calls Try.prog 41 #[.slice A0 l0.length c0, .slice A1 l1.length c1] w fun e w' => e = .returned (.bool r) ∧ Drawn0 w w' := by
 have hu29 := Try.underlying29
 have HR0 := mk_ hr0
 have HC0 := mk_ hc0
 clear hr0 hc0
 have HR1 := mk_ hr1
 have HC1 := mk_ hc1
 clear hr1 hc1
 have H := h
 unfold laws_sameRoutes.f at H
 clear h
 by_cases c3 : (l0.length : Int) = (l1.length : Int)
 rotate_left
 ·rw [if_neg c3] at H
  have c3b0 : ((l0.length : Int) == (l1.length : Int)) = false := beq_eq_false_iff_ne.mpr c3
  have c3b1 : ((l0.length : Int) != (l1.length : Int)) = true := bne_iff_ne.mpr c3
  have c3b2 : (l0.length == l1.length) = false := by first | simpa using c3 | (simp at c3 ⊢; omega)
  obtain rfl := Option.some.inj H
  go_enter Try.func41, Try.ntmps41
  go_wp2
  repeat (go_quiet (fail); try go_wp2)
  go_ret
  exact ⟨by first | rfl | (simp; done) | (simp [*]; done), by repeat (first | exact Drawn0.refl _ | apply Drawn0.step)⟩
 rw [if_pos c3] at H
 have c3b0 : ((l0.length : Int) == (l1.length : Int)) = true := beq_iff_eq.mpr c3
 have c3b1 : ((l0.length : Int) != (l1.length : Int)) = false := bne_eq_false_iff_eq.mpr c3
 have c3b2 : (l0.length == l1.length) = true := by first | simpa using c3 | (simp at c3 ⊢; omega)
 clear c3
 have H' := mk_ H
 clear H
 go_enter Try.func41, Try.ntmps41
 go_wp2
 repeat (go_quiet (fail); try go_wp2)
 go_loopg [5] k (fun kq v5 w' => ∃ (x5_1 : Int), v5 = .int .i64 x5_1 ∧ Aside0 (laws_sameRoutes.l0 kq l0 l1 x5_1 = some r) ∧ Aside0 (kq ≤ k) ∧ Drawn0 w w')
 case atStart => exact ⟨(0), (by first | rfl | (simp; done) | (simp [*]; done)), H', ⟨Nat.le_refl _⟩, by repeat (first | exact Drawn0.refl _ | apply Drawn0.step)⟩
 case round =>
  clear H'
  try clear c1
  try clear p2
  try clear c3
  try clear c3b0
  try clear c3b1
  try clear c3b2
  obtain ⟨x5_1, rfl, HA, HK1, ⟨m1, rfl⟩⟩ := hrel
  cases gk with
  | zero => exact absurd HA.out (by simp [laws_sameRoutes.l0])
  | succ k1 =>
   have H := HA.out
   clear HA
   simp only [laws_sameRoutes.l0] at H
   by_cases c4 : x5_1 < (l0.length : Int)
   rotate_left
   ·rw [if_neg c4] at H
    have c4b0 : decide (x5_1 < (l0.length : Int)) = false := decide_eq_false c4
    clear c4
    obtain rfl := Option.some.inj H
    go_wp2
    repeat (go_quiet (fail); try go_wp2)
    go_ret
    exact ⟨by first | rfl | (simp; done) | (simp [*]; done), by repeat (first | exact Drawn0.refl _ | apply Drawn0.step)⟩
   rw [if_pos c4] at H
   have c4b0 : decide (x5_1 < (l0.length : Int)) = true := decide_eq_true c4
   clear c4
   by_cases c5 : 0 ≤ x5_1
   rotate_left
   ·rw [if_neg c5] at H
    exact absurd H (by simp)
   rw [if_pos c5] at H
   have c5b0 : decide (0 ≤ x5_1) = true := decide_eq_true c5
   clear c5
   by_cases c6 : x5_1 < (l1.length : Int)
   rotate_left
   ·rw [if_neg c6] at H
    exact absurd H (by simp)
   rw [if_pos c6] at H
   have c6b0 : decide (x5_1 < (l1.length : Int)) = true := decide_eq_true c6
   clear c6
   by_cases c7 : (!(((rd_T29 l0 x5_1).f0) == ((rd_T29 l1 x5_1).f0)) || (!(((rd_T29 l0 x5_1).f1) == ((rd_T29 l1 x5_1).f1)) || (!(((rd_T29 l0 x5_1).f2) == ((rd_T29 l1 x5_1).f2)) || (!(((rd_T29 l0 x5_1).f3) == ((rd_T29 l1 x5_1).f3)))))) = true
   ·rw [if_pos c7] at H
    have c7b0 : (!(((rd_T29 l0 x5_1).f0) == ((rd_T29 l1 x5_1).f0)) || (!(((rd_T29 l0 x5_1).f1) == ((rd_T29 l1 x5_1).f1)) || (!(((rd_T29 l0 x5_1).f2) == ((rd_T29 l1 x5_1).f2)) || (!(((rd_T29 l0 x5_1).f3) == ((rd_T29 l1 x5_1).f3)))))) = true := c7
    clear c7
    obtain rfl := Option.some.inj H
    have p282 : 0 ≤ (x5_1 : Int) := of_decide_eq_true (by first | (with_reducible assumption) | assumption)
    have q282 : x5_1 < (l0.length : Int) := of_decide_eq_true (by first | (with_reducible assumption) | assumption)
    obtain ⟨ad282, e282, hx282_0, hx282_1, hx282_2, hx282_3⟩ := at_T29 HR0.out x5_1 p282 q282
    cases e282
    replace p282 := eq_true p282
    replace q282 := eq_true q282
    have p283 : 0 ≤ (x5_1 : Int) := of_decide_eq_true (by first | (with_reducible assumption) | assumption)
    have q283 : x5_1 < (l1.length : Int) := of_decide_eq_true (by first | (with_reducible assumption) | assumption)
    obtain ⟨ad283, e283, hx283_0, hx283_1, hx283_2, hx283_3⟩ := at_T29 HR1.out x5_1 p283 q283
    cases e283
    replace p283 := eq_true p283
    replace q283 := eq_true q283
    go_wp2
    repeat (go_quiet (fail); try go_wp2)
    go_ret
    exact ⟨by first | rfl | (simp; done) | (simp [*]; done), by repeat (first | exact Drawn0.refl _ | apply Drawn0.step)⟩
   rw [if_neg c7] at H
   have c7b0 : (!(((rd_T29 l0 x5_1).f0) == ((rd_T29 l1 x5_1).f0)) || (!(((rd_T29 l0 x5_1).f1) == ((rd_T29 l1 x5_1).f1)) || (!(((rd_T29 l0 x5_1).f2) == ((rd_T29 l1 x5_1).f2)) || (!(((rd_T29 l0 x5_1).f3) == ((rd_T29 l1 x5_1).f3)))))) = false := by simpa using c7
   clear c7
   have H' := mk_ H
   clear H
   have p282 : 0 ≤ (x5_1 : Int) := of_decide_eq_true (by first | (with_reducible assumption) | assumption)
   have q282 : x5_1 < (l0.length : Int) := of_decide_eq_true (by first | (with_reducible assumption) | assumption)
   obtain ⟨ad282, e282, hx282_0, hx282_1, hx282_2, hx282_3⟩ := at_T29 HR0.out x5_1 p282 q282
   cases e282
   replace p282 := eq_true p282
   replace q282 := eq_true q282
   have p283 : 0 ≤ (x5_1 : Int) := of_decide_eq_true (by first | (with_reducible assumption) | assumption)
   have q283 : x5_1 < (l1.length : Int) := of_decide_eq_true (by first | (with_reducible assumption) | assumption)
   obtain ⟨ad283, e283, hx283_0, hx283_1, hx283_2, hx283_3⟩ := at_T29 HR1.out x5_1 p283 q283
   cases e283
   replace p283 := eq_true p283
   replace q283 := eq_true q283
   go_wp2
   repeat (go_quiet (fail); try go_wp2)
   go_roundg k1
   case measure => have := HK1.out; omega
   case rel => exact ⟨(wrap64 (x5_1 + 1)), (by first | rfl | (simp; done) | (simp [*]; done)), H', ⟨by have := HK1.out; omega⟩, by repeat (first | exact Drawn0.refl _ | apply Drawn0.step)⟩

-- NOT PRINTED: function 87 (impl_Route_87)

-- NOT PRINTED: function 120 (impl_Route_120)

-- NOT PRINTED: function 135 (impl_Route_135)

-- NOT PRINTED: function 121 (impl_Route_121)

-- NOT PRINTED: function 88 (impl_Route_88)

-- NOT PRINTED: function 43 (impl_RoutePut)

-- NOT PRINTED: function 9 (laws_FnRouteDrop)

end Go.Proofs.Ytkkibccnpkbbjab.MFnRouteDrop
