/- Functions that the law FnRouteDrop reaches, each with the proof that the machine's call comes to just its answer; no conditions but those that each theorem states. Printed by a program of this session over the kit's print. -/
import Derived.Test.YtkkibccnpkbbjabMFnRouteDropx0
import Derived.Test.YtkkibccnpkbbjabMFnRouteDropx2
import Derived.Test.YtkkibccnpkbbjabMFnRouteDropx3
import Derived.Test.YtkkibccnpkbbjabMFnRouteDropx5
namespace Go.Proofs.Ytkkibccnpkbbjab.MFnRouteDrop
open Go.RowKit Go.Proofs.YtkkibccnpkbbjabV.PrintWords Go.Proofs.YtkkibccnpkbbjabV.PrintLast Go.Proofs.YtkkibccnpkbbjabV.PrintMore
attribute [local go_sem] max2_int min2_int max_two min_two max_three min_three max_four min_four   -- for this text's walks alone
set_option linter.unusedVariables false
set_option linter.unusedSimpArgs false

/-! ### spec_l20Routes: function 78 -/
def spec_l20Routes.l0 : Nat → Int → List (S29) → Int → List Int → Int → Option ((List (S29)) × Int)
 | 0, _, _, _, _, _ => none
 | k + 1, x1, x5, x6, x1000, x1001 => if x6 > 0 then ((spec_l20Route.f k x1000 x1001 0).bind fun bt208 => ((spec_RoutePut.f k x5 bt208.1 bt208.2.1 bt208.2.2.1 bt208.2.2.2.1).bind fun bt213 => (if bt213.2 = true then (spec_l20Routes.l0 k x1 bt213.1 (wrap64 (x6 - 1)) x1000 bt208.2.2.2.2) else (spec_l20Routes.l0 k x1 x5 (wrap64 (x6 - 1)) x1000 bt208.2.2.2.2)))) else ((spec_l20Rd_odd.f k x1000 x1001 x1).bind fun bt217 => (if bt217.1 = true then ((spec_l20Route.f k x1000 bt217.2 2).bind fun bt219 => (if x5.length < 4398046511104 then (some ((x5 ++ [(⟨bt219.1, bt219.2.1, bt219.2.2.1, bt219.2.2.2.1⟩ : S29)]), bt219.2.2.2.2)) else (none))) else (some (x5, bt217.2))))
def spec_l20Routes.f (k : Nat) (s0_0 : List Int) (s0_1 : Int) (a1 : Int) : Option ((List (S29)) × Int) := (spec_l20Rd_pick.f k s0_0 s0_1 8).bind fun bt206 => (spec_l20Routes.l0 k a1 (([] : List (S29))) bt206.1 s0_0 bt206.2)
theorem spec_l20Routes.mono_l : ∀ k, (∀ y0 y1 y2 y3 y4, LeO (spec_l20Routes.l0 k y0 y1 y2 y3 y4) (spec_l20Routes.l0 (k + 1) y0 y1 y2 y3 y4))
 | 0 => fun _ _ _ _ _ r h => by simp [spec_l20Routes.l0] at h
 | k + 1 => by
  have ih0 := spec_l20Routes.mono_l k
  ·intro y0 y1 y2 y3 y4
   unfold spec_l20Routes.l0
   repeat' first
   | (with_reducible exact ih0 _ _ _ _ _)
   | (with_reducible exact spec_RoutePut.mono _ _ _ _ _ _)
   | (with_reducible exact spec_l20Rd_odd.mono _ _ _ _)
   | (with_reducible exact spec_l20Rd_pick.mono _ _ _ _)
   | (with_reducible exact spec_l20Route.mono _ _ _ _)
   | (with_reducible exact LeO.refl _)
   | (with_reducible exact LeO.none _)
   | (with_reducible refine LeO.ite ?_ ?_)
   | (with_reducible refine LeO.bind ?_ (fun _ => ?_))
   | exact ih0 _ _ _ _ _
   | exact spec_RoutePut.mono _ _ _ _ _ _
   | exact spec_l20Rd_odd.mono _ _ _ _
   | exact spec_l20Rd_pick.mono _ _ _ _
   | exact spec_l20Route.mono _ _ _ _
   | exact LeO.none _
   | refine LeO.ite ?_ ?_
   | refine LeO.bind ?_ (fun _ => ?_)
theorem spec_l20Routes.mono : ∀ a0 a1 a2 k, LeO (spec_l20Routes.f k a0 a1 a2) (spec_l20Routes.f (k + 1) a0 a1 a2) := by
 intro a0 a1 a2 k
 have ih0 := spec_l20Routes.mono_l k
 unfold spec_l20Routes.f
 repeat' first
   | (with_reducible exact ih0 _ _ _ _ _)
   | (with_reducible exact spec_RoutePut.mono _ _ _ _ _ _)
   | (with_reducible exact spec_l20Rd_odd.mono _ _ _ _)
   | (with_reducible exact spec_l20Rd_pick.mono _ _ _ _)
   | (with_reducible exact spec_l20Route.mono _ _ _ _)
   | (with_reducible exact LeO.refl _)
   | (with_reducible exact LeO.none _)
   | (with_reducible refine LeO.ite ?_ ?_)
   | (with_reducible refine LeO.bind ?_ (fun _ => ?_))
   | exact ih0 _ _ _ _ _
   | exact spec_RoutePut.mono _ _ _ _ _ _
   | exact spec_l20Rd_odd.mono _ _ _ _
   | exact spec_l20Rd_pick.mono _ _ _ _
   | exact spec_l20Route.mono _ _ _ _
   | exact LeO.none _
   | refine LeO.ite ?_ ?_
   | refine LeO.bind ?_ (fun _ => ?_)
set_option maxHeartbeats 8000000 in
set_option maxRecDepth 100000 in
theorem spec_l20Routes.calls (k : Nat) (g : Nat) (s0_0 : List Int) (s0_1 : Int) (a1 : Int) (r1 : List (S29)) (r2 : Int) (w0 w : World) (hI : IsS107 w0 w g s0_0 s0_1) (hB : Below w0.heap.size w0 w) (h : spec_l20Routes.f k s0_0 s0_1 a1 = some (r1, r2)) :
  Calls Try.prog 78 #[.pointer (some ⟨g, 0, none⟩), .int .i64 a1] w fun e w' => ∃ v0_ : Value, e = .returned (v0_) ∧ Kd.R k29 29 w' w.heap.size (fun _ => True) v0_ r1 ∧ IsS107 w0 w' g s0_0 r2 ∧ Below w0.heap.size w0 w' ∧ KeepBut w w' g none := by
 have HI0 := mk_ hI
 have HK := mk_ (KeepBut.refl w g none)
 have HL := mk_ hB.size
 clear hI
 have HW0 := mk_ hB.size
 have HB := mk_ hB
 clear hB
 have H := h
 unfold spec_l20Routes.f at H
 clear h
 obtain ⟨y203, hy203⟩ : ∃ y_ : List (S29), y_ = (([] : List (S29))) := ⟨_, rfl⟩
 replace H : ((spec_l20Rd_pick.f k s0_0 s0_1 8).bind fun bt206 => (spec_l20Routes.l0 k a1 y203 bt206.1 s0_0 bt206.2)) = some (r1, r2) := by first | (rw [hy203]; with_reducible exact H) | (have H2_ := (Option.bind_some _ _).symm.trans H; rw [hy203]; with_reducible exact H2_) | (have H2_ := (Option.bind_some _ _).symm.trans H; with_reducible exact H2_) | with_reducible exact H | (rw [hy203]; exact H) | exact H
 have Ny203 := mk_ hy203
 clear hy203
 replace H := Option.bind_eq_some_iff.mp H
 obtain ⟨⟨t206, t207⟩, A30, H⟩ := H
 replace H : (spec_l20Routes.l0 k a1 y203 t206 s0_0 t207) = some (r1, r2) := H
 have A3 := mk_ A30
 clear A30
 have H' := mk_ H
 clear H
 go_enter Try.func78, Try.ntmps78
 go_wp2_with (first | ((with_reducible refine gate_dst (N := 9) rfl ?_); refine Kd.R_lit k29 _ 29 ?hg (N := 9) ?hd (xs := ([] : List (S29))) (inner := []) (ok := fun _ => True) (okp := fun _ => True) ?hr ?hp (fun _ hk => hk) trivial (Below.refl _ _) (Nat.le_refl _) (by simp) ?_; (case hd => rfl); (case hg => rfl); (case hr => first | (go_simp; done) | (go_simp; rfl)); (case hp => exact (Reps.none _ _)); intro v204 w4 ho5 hb hg_ hnew_; clear hg_ hnew_; (first | rw [← Ny203.out] at ho5 | (simp only [Int.reduceToNat] at ho5; rw [← Ny203.out] at ho5)); have HO205 := mk_ (Kd.R_lower ho5 (keep_size (w := w) (g := g) (row := none) (by repeat (first | (with_reducible first | exact HK.out | apply KeepBut.set_ | apply keep_drewN | apply keep_drew | apply keep_alloc) | exact HK.out)))); have n1_ := mk_ (IsS107.below (by repeat (first | (with_reducible first | exact HI0.out | apply IsS107.alloc | apply IsS107.drewN | apply IsS107.drew | apply IsS107.set_1) | exact HI0.out)) hb); replace HK := mk_ (KeepBut.trans (by repeat (first | (with_reducible first | exact HK.out | apply KeepBut.set_ | apply keep_drewN | apply keep_drew | apply keep_alloc) | exact HK.out)) (KeepBut.of_below hb g none) (.inl rfl)); replace HB := mk_ (below_step (by repeat (first | (with_reducible first | exact HB.out | apply na_ | apply nn_ | apply nw_ | refine bs_ ?_ (IsS107.ge HI0.out)) | exact HB.out)) hb); replace HI0 := n1_; clear n1_; clear hb ho5) | ((with_reducible refine gate_callee (f := 46) rfl ?_); refine goesL_ (some 11) rfl rfl Try.func46 (by kernel_rfl) rfl #[.pointer (some ⟨g, 0, none⟩), .int .i64 8] rfl (by (try simp only [lm_, lo_, ln_]); try rfl) ?_; (with_reducible refine (spec_l20Rd_pick.calls k g s0_0 s0_1 8 t206 t207 w0 _ ?side1 ?side2 A3.out).mono ?_); (case side1 => repeat (first | (with_reducible first | exact HI0.out | apply IsS107.alloc | apply IsS107.drewN | apply IsS107.drew | apply IsS107.set_1) | exact HI0.out)); (case side2 => repeat (first | (with_reducible first | exact HB.out | apply na_ | apply nn_ | apply nw_ | refine bs_ ?_ (IsS107.ge HI0.out)) | exact HB.out)); rintro e w6 ⟨rfl, hi, hb, hk⟩; refine ⟨_, rfl, ?_⟩; replace HO205 := mk_ (Kd.R_mono (Kd.R_keep (IsS107.apart (show IsS107 w0 _ g s0_0 s0_1 from by repeat (first | (with_reducible first | exact HI0.out | apply IsS107.alloc | apply IsS107.drewN | apply IsS107.drew | apply IsS107.set_1) | exact HI0.out)) (Kd.ur_ HO205.out) (by decide)) hk (fun _ h => h.2)) (fun _ h => h.1)); replace HK := mk_ (KeepBut.trans (by repeat (first | (with_reducible first | exact HK.out | apply KeepBut.set_ | apply keep_drewN | apply keep_drew | apply keep_alloc) | exact HK.out)) hk (.inl rfl)); replace HB := mk_ (hb); replace HI0 := mk_ (hi)))
 go_loopg [5, 6] k (fun kq v5 v6 w' => ∃ (x5_1 : List (S29)) (x6_1 : Int) (x1001_1 : Int), v6 = .int .i64 x6_1 ∧ Aside0 (spec_l20Routes.l0 kq a1 x5_1 x6_1 s0_0 x1001_1 = some (r1, r2)) ∧ Aside0 (kq ≤ k) ∧ Aside0 (Kd.R k29 29 w' w.heap.size (fun _ => True) v5 x5_1) ∧ Aside0 (IsS107 w0 w' g s0_0 x1001_1) ∧ Aside0 (KeepBut w w' g none) ∧ Aside0 (Below w0.heap.size w0 w'))
 case atStart => exact ⟨(y203), (t206), (t207), (by first | rfl | (simp; done) | (simp [*]; done)), H', ⟨Nat.le_refl _⟩, ⟨Kd.ur_ HO205.out⟩, ⟨by repeat (first | (with_reducible first | exact HI0.out | apply IsS107.alloc | apply IsS107.drewN | apply IsS107.drew | apply IsS107.set_1) | exact HI0.out)⟩, ⟨by repeat (first | (with_reducible first | exact HK.out | apply KeepBut.set_ | apply keep_drewN | apply keep_drew | apply keep_alloc) | exact HK.out)⟩, ⟨by repeat (first | (with_reducible first | exact HB.out | apply na_ | apply nn_ | apply nw_ | refine bs_ ?_ (IsS107.ge HI0.out)) | exact HB.out)⟩⟩
 case round =>
  clear H'
  try clear p2
  try clear c4
  obtain ⟨x5_1, x6_1, x1001_1, rfl, HA, HK1, HO_5, HI0, HK, HB⟩ := hrel
  cases gk with
  | zero => exact absurd HA.out (by simp [spec_l20Routes.l0])
  | succ k1 =>
   have H := HA.out
   clear HA
   simp only [spec_l20Routes.l0] at H
   by_cases c7 : x6_1 > 0
   ·rw [if_pos c7] at H
    have c7b0 : decide (0 < x6_1) = true := decide_eq_true c7
    clear c7
    replace H := Option.bind_eq_some_iff.mp H
    obtain ⟨⟨t208, t209, t210, t211, t212⟩, A80, H⟩ := H
    (try dsimp only at H)
    have A8 := mk_ A80
    clear A80
    replace H := Option.bind_eq_some_iff.mp H
    obtain ⟨⟨t213, t216⟩, A90, H⟩ := H
    (try dsimp only at H)
    have A9 := mk_ A90
    clear A90
    by_cases c10 : t216 = true
    focus
     subst c10
     rw [if_pos rfl] at H
     have H' := mk_ H
     clear H
    rotate_left
    focus
     replace c10 := Bool.eq_false_iff.mpr c10
     subst c10
     rw [if_neg (show ¬ (false = true) by decide)] at H
     have H' := mk_ H
     clear H
    rotate_left
    all_goals
     go_wp2_with (first | ((with_reducible refine gate_callee (f := 79) rfl ?_); refine goesL_ (some 19) rfl rfl Try.func79 (by kernel_rfl) rfl #[.pointer (some ⟨g, 0, none⟩), .int .i64 0] rfl (by (try simp only [lm_, lo_, ln_]); try rfl) ?_; (with_reducible refine (spec_l20Route.calls k1 g s0_0 x1001_1 0 t208 t209 t210 t211 t212 w0 _ ?side1 ?side2 A8.out).mono ?_); (case side1 => repeat (first | (with_reducible first | exact HI0.out | apply IsS107.alloc | apply IsS107.drewN | apply IsS107.drew | apply IsS107.set_1) | exact HI0.out)); (case side2 => repeat (first | (with_reducible first | exact HB.out | apply na_ | apply nn_ | apply nw_ | refine bs_ ?_ (IsS107.ge HI0.out)) | exact HB.out)); rintro e w9840 ⟨rfl, hi, hb, hk⟩; refine ⟨_, rfl, ?_⟩; replace HO_5 := mk_ (Kd.R_mono (Kd.R_keep (IsS107.apart (show IsS107 w0 _ g s0_0 x1001_1 from by repeat (first | (with_reducible first | exact HI0.out | apply IsS107.alloc | apply IsS107.drewN | apply IsS107.drew | apply IsS107.set_1) | exact HI0.out)) (Kd.ur_ HO_5.out) (by decide)) hk (fun _ h => h.2)) (fun _ h => h.1)); replace HK := mk_ (KeepBut.trans (by repeat (first | (with_reducible first | exact HK.out | apply KeepBut.set_ | apply keep_drewN | apply keep_drew | apply keep_alloc) | exact HK.out)) hk (.inl rfl)); replace HB := mk_ (hb); replace HI0 := mk_ (hi); obtain ⟨Ao9841, co9841, eo9841⟩ := Kd.R_slice HO_5.out; subst eo9841) | ((with_reducible refine gate_callee (f := 89) rfl ?_); refine goesL_ (some 20) rfl rfl Try.func89 (by kernel_rfl) rfl #[.slice Ao9841 x5_1.length co9841, .agg #[.int .i64 t208, .int .i64 t209, .int .i64 t210, .int .i64 t211]] rfl (by (try simp only [lm_, lo_, ln_]); try rfl) ?_; (with_reducible refine (spec_RoutePut.calls k1 _ _ x5_1 t208 t209 t210 t211 t213 true _ ?side1 ?side2 A9.out).mono ?_); (case side1 => repeat (first | exact (Kd.R_reads' HO_5.out).2.2 | (with_reducible refine Kd.C_alloc ?_ _) | (with_reducible refine Kd.C_drewN ?_ _) | (with_reducible refine Kd.C_drew ?_))); (case side2 => exact (Kd.R_reads' HO_5.out).2.1); rintro e w9880 ⟨v9881, rfl, ho9882, hb⟩; refine ⟨_, rfl, ?_⟩; have n0_ := mk_ (Kd.R_elder' (Kd.ur_ HO_5.out) (Kd.R_base ho9882) hb); have HO215 := mk_ (Kd.R_lower (Kd.R_new' ho9882 (Kd.R_lt (Kd.ur_ HO_5.out))) (keep_size (w := w) (g := g) (row := none) (by repeat (first | (with_reducible first | exact HK.out | apply KeepBut.set_ | apply keep_drewN | apply keep_drew | apply keep_alloc) | exact HK.out)))); have n2_ := mk_ (IsS107.below (by repeat (first | (with_reducible first | exact HI0.out | apply IsS107.alloc | apply IsS107.drewN | apply IsS107.drew | apply IsS107.set_1) | exact HI0.out)) hb); replace HK := mk_ (KeepBut.trans (by repeat (first | (with_reducible first | exact HK.out | apply KeepBut.set_ | apply keep_drewN | apply keep_drew | apply keep_alloc) | exact HK.out)) (KeepBut.of_below hb g none) (.inl rfl)); replace HB := mk_ (below_step (by repeat (first | (with_reducible first | exact HB.out | apply na_ | apply nn_ | apply nw_ | refine bs_ ?_ (IsS107.ge HI0.out)) | exact HB.out)) hb); replace HO_5 := n0_; replace HI0 := n2_; clear n0_ n2_) | ((with_reducible refine gate_callee (f := 89) rfl ?_); refine goesL_ (some 20) rfl rfl Try.func89 (by kernel_rfl) rfl #[.slice Ao9841 x5_1.length co9841, .agg #[.int .i64 t208, .int .i64 t209, .int .i64 t210, .int .i64 t211]] rfl (by (try simp only [lm_, lo_, ln_]); try rfl) ?_; (with_reducible refine (spec_RoutePut.calls k1 _ _ x5_1 t208 t209 t210 t211 t213 false _ ?side1 ?side2 A9.out).mono ?_); (case side1 => repeat (first | exact (Kd.R_reads' HO_5.out).2.2 | (with_reducible refine Kd.C_alloc ?_ _) | (with_reducible refine Kd.C_drewN ?_ _) | (with_reducible refine Kd.C_drew ?_))); (case side2 => exact (Kd.R_reads' HO_5.out).2.1); rintro e w9880 ⟨v9881, rfl, ho9882, hb⟩; refine ⟨_, rfl, ?_⟩; have n0_ := mk_ (Kd.R_elder' (Kd.ur_ HO_5.out) (Kd.R_base ho9882) hb); have HO215 := mk_ (Kd.R_lower (Kd.R_new' ho9882 (Kd.R_lt (Kd.ur_ HO_5.out))) (keep_size (w := w) (g := g) (row := none) (by repeat (first | (with_reducible first | exact HK.out | apply KeepBut.set_ | apply keep_drewN | apply keep_drew | apply keep_alloc) | exact HK.out)))); have n2_ := mk_ (IsS107.below (by repeat (first | (with_reducible first | exact HI0.out | apply IsS107.alloc | apply IsS107.drewN | apply IsS107.drew | apply IsS107.set_1) | exact HI0.out)) hb); replace HK := mk_ (KeepBut.trans (by repeat (first | (with_reducible first | exact HK.out | apply KeepBut.set_ | apply keep_drewN | apply keep_drew | apply keep_alloc) | exact HK.out)) (KeepBut.of_below hb g none) (.inl rfl)); replace HB := mk_ (below_step (by repeat (first | (with_reducible first | exact HB.out | apply na_ | apply nn_ | apply nw_ | refine bs_ ?_ (IsS107.ge HI0.out)) | exact HB.out)) hb); replace HO_5 := n0_; replace HI0 := n2_; clear n0_ n2_))
     go_roundg k1
     case measure => have := HK1.out; omega
    ·case rel => exact ⟨(t213), (wrap64 (x6_1 - 1)), (t212), (by first | rfl | (simp; done) | (simp [*]; done)), H', ⟨by have := HK1.out; omega⟩, ⟨by (with_reducible repeat (first | apply Kd.R_alloc | apply Kd.R_drewN | apply Kd.R_drew)); exact Kd.R_mono HO215.out (fun _ hk => trivial)⟩, ⟨by repeat (first | (with_reducible first | exact HI0.out | apply IsS107.alloc | apply IsS107.drewN | apply IsS107.drew | apply IsS107.set_1) | exact HI0.out)⟩, ⟨by repeat (first | (with_reducible first | exact HK.out | apply KeepBut.set_ | apply keep_drewN | apply keep_drew | apply keep_alloc) | exact HK.out)⟩, ⟨by repeat (first | (with_reducible first | exact HB.out | apply na_ | apply nn_ | apply nw_ | refine bs_ ?_ (IsS107.ge HI0.out)) | exact HB.out)⟩⟩
    ·case rel => exact ⟨(x5_1), (wrap64 (x6_1 - 1)), (t212), (by first | rfl | (simp; done) | (simp [*]; done)), H', ⟨by have := HK1.out; omega⟩, ⟨by (with_reducible repeat (first | apply Kd.R_alloc | apply Kd.R_drewN | apply Kd.R_drew)); exact Kd.R_mono HO_5.out (fun _ hk => trivial)⟩, ⟨by repeat (first | (with_reducible first | exact HI0.out | apply IsS107.alloc | apply IsS107.drewN | apply IsS107.drew | apply IsS107.set_1) | exact HI0.out)⟩, ⟨by repeat (first | (with_reducible first | exact HK.out | apply KeepBut.set_ | apply keep_drewN | apply keep_drew | apply keep_alloc) | exact HK.out)⟩, ⟨by repeat (first | (with_reducible first | exact HB.out | apply na_ | apply nn_ | apply nw_ | refine bs_ ?_ (IsS107.ge HI0.out)) | exact HB.out)⟩⟩
   rw [if_neg c7] at H
   have c7b0 : decide (0 < x6_1) = false := decide_eq_false c7
   clear c7
   replace H := Option.bind_eq_some_iff.mp H
   obtain ⟨⟨t217, t218⟩, A170, H⟩ := H
   (try dsimp only at H)
   have A17 := mk_ A170
   clear A170
   by_cases c18 : t217 = true
   rotate_left
   ·replace c18 := Bool.eq_false_iff.mpr c18
    subst c18
    have H1 : (some (x5_1, t218)) = some (r1, r2) := by rw [if_neg (show ¬ (false = true) by decide)] at H; exact H
    clear H
    have H := H1
    clear H1
    simp only [Option.some.injEq, Prod.mk.injEq] at H
    obtain ⟨rfl, rfl⟩ := H
    go_wp2_with (first | ((with_reducible refine gate_callee (f := 90) rfl ?_); refine goesL_ (some 27) rfl rfl Try.func90 (by kernel_rfl) rfl #[.pointer (some ⟨g, 0, none⟩), .int .i64 a1] rfl (by (try simp only [lm_, lo_, ln_]); try rfl) ?_; (with_reducible refine (spec_l20Rd_odd.calls k1 g s0_0 x1001_1 a1 false t218 w0 _ ?side1 ?side2 A17.out).mono ?_); (case side1 => repeat (first | (with_reducible first | exact HI0.out | apply IsS107.alloc | apply IsS107.drewN | apply IsS107.drew | apply IsS107.set_1) | exact HI0.out)); (case side2 => repeat (first | (with_reducible first | exact HB.out | apply na_ | apply nn_ | apply nw_ | refine bs_ ?_ (IsS107.ge HI0.out)) | exact HB.out)); rintro e w24 ⟨rfl, hi, hb, hk⟩; refine ⟨_, rfl, ?_⟩; replace HO_5 := mk_ (Kd.R_mono (Kd.R_keep (IsS107.apart (show IsS107 w0 _ g s0_0 x1001_1 from by repeat (first | (with_reducible first | exact HI0.out | apply IsS107.alloc | apply IsS107.drewN | apply IsS107.drew | apply IsS107.set_1) | exact HI0.out)) (Kd.ur_ HO_5.out) (by decide)) hk (fun _ h => h.2)) (fun _ h => h.1)); replace HK := mk_ (KeepBut.trans (by repeat (first | (with_reducible first | exact HK.out | apply KeepBut.set_ | apply keep_drewN | apply keep_drew | apply keep_alloc) | exact HK.out)) hk (.inl rfl)); replace HB := mk_ (hb); replace HI0 := mk_ (hi)))
    go_ret
    exact ⟨_, by first | rfl | (simp [errW_none, errW_some] <;> rfl) | (simp [*, errW_none, errW_some] <;> rfl), by (with_reducible repeat (first | apply Kd.R_alloc | apply Kd.R_drewN | apply Kd.R_drew)); exact HO_5.out, by repeat (first | (with_reducible first | exact HI0.out | apply IsS107.alloc | apply IsS107.drewN | apply IsS107.drew | apply IsS107.set_1) | exact HI0.out), by repeat (first | (with_reducible first | exact HB.out | apply na_ | apply nn_ | apply nw_ | refine bs_ ?_ (IsS107.ge HI0.out)) | exact HB.out), by repeat (first | (with_reducible first | exact HK.out | apply KeepBut.set_ | apply keep_drewN | apply keep_drew | apply keep_alloc) | exact HK.out)⟩
   subst c18
   rw [if_pos rfl] at H
   replace H := Option.bind_eq_some_iff.mp H
   obtain ⟨⟨t219, t220, t221, t222, t223⟩, A190, H⟩ := H
   (try dsimp only at H)
   have A19 := mk_ A190
   clear A190
   by_cases c20 : x5_1.length < 4398046511104
   rotate_left
   ·rw [if_neg c20] at H
    exact absurd H (by simp)
   rw [if_pos c20] at H
   have LMc20 := mk_ c20
   clear c20
   obtain ⟨y224, hy224⟩ : ∃ y_ : List (S29), y_ = (x5_1 ++ [(⟨t219, t220, t221, t222⟩ : S29)]) := ⟨_, rfl⟩
   replace H : (some (y224, t223)) = some (r1, r2) := by first | (rw [hy224]; with_reducible exact H) | (have H2_ := (Option.bind_some _ _).symm.trans H; rw [hy224]; with_reducible exact H2_) | (have H2_ := (Option.bind_some _ _).symm.trans H; with_reducible exact H2_) | with_reducible exact H | (rw [hy224]; exact H) | exact H
   have Ny224 := mk_ hy224
   clear hy224
   simp only [Option.some.injEq, Prod.mk.injEq] at H
   obtain ⟨rfl, rfl⟩ := H
   go_wp2_with (first | ((with_reducible refine gate_callee (f := 90) rfl ?_); refine goesL_ (some 27) rfl rfl Try.func90 (by kernel_rfl) rfl #[.pointer (some ⟨g, 0, none⟩), .int .i64 a1] rfl (by (try simp only [lm_, lo_, ln_]); try rfl) ?_; (with_reducible refine (spec_l20Rd_odd.calls k1 g s0_0 x1001_1 a1 true t218 w0 _ ?side1 ?side2 A17.out).mono ?_); (case side1 => repeat (first | (with_reducible first | exact HI0.out | apply IsS107.alloc | apply IsS107.drewN | apply IsS107.drew | apply IsS107.set_1) | exact HI0.out)); (case side2 => repeat (first | (with_reducible first | exact HB.out | apply na_ | apply nn_ | apply nw_ | refine bs_ ?_ (IsS107.ge HI0.out)) | exact HB.out)); rintro e w21 ⟨rfl, hi, hb, hk⟩; refine ⟨_, rfl, ?_⟩; replace HO_5 := mk_ (Kd.R_mono (Kd.R_keep (IsS107.apart (show IsS107 w0 _ g s0_0 x1001_1 from by repeat (first | (with_reducible first | exact HI0.out | apply IsS107.alloc | apply IsS107.drewN | apply IsS107.drew | apply IsS107.set_1) | exact HI0.out)) (Kd.ur_ HO_5.out) (by decide)) hk (fun _ h => h.2)) (fun _ h => h.1)); replace HK := mk_ (KeepBut.trans (by repeat (first | (with_reducible first | exact HK.out | apply KeepBut.set_ | apply keep_drewN | apply keep_drew | apply keep_alloc) | exact HK.out)) hk (.inl rfl)); replace HB := mk_ (hb); replace HI0 := mk_ (hi)) | ((with_reducible refine gate_callee (f := 79) rfl ?_); refine goesL_ (some 30) rfl rfl Try.func79 (by kernel_rfl) rfl #[.pointer (some ⟨g, 0, none⟩), .int .i64 2] rfl (by (try simp only [lm_, lo_, ln_]); try rfl) ?_; (with_reducible refine (spec_l20Route.calls k1 g s0_0 t218 2 t219 t220 t221 t222 t223 w0 _ ?side1 ?side2 A19.out).mono ?_); (case side1 => repeat (first | (with_reducible first | exact HI0.out | apply IsS107.alloc | apply IsS107.drewN | apply IsS107.drew | apply IsS107.set_1) | exact HI0.out)); (case side2 => repeat (first | (with_reducible first | exact HB.out | apply na_ | apply nn_ | apply nw_ | refine bs_ ?_ (IsS107.ge HI0.out)) | exact HB.out)); rintro e w22 ⟨rfl, hi, hb, hk⟩; refine ⟨_, rfl, ?_⟩; replace HO_5 := mk_ (Kd.R_mono (Kd.R_keep (IsS107.apart (show IsS107 w0 _ g s0_0 t218 from by repeat (first | (with_reducible first | exact HI0.out | apply IsS107.alloc | apply IsS107.drewN | apply IsS107.drew | apply IsS107.set_1) | exact HI0.out)) (Kd.ur_ HO_5.out) (by decide)) hk (fun _ h => h.2)) (fun _ h => h.1)); replace HK := mk_ (KeepBut.trans (by repeat (first | (with_reducible first | exact HK.out | apply KeepBut.set_ | apply keep_drewN | apply keep_drew | apply keep_alloc) | exact HK.out)) hk (.inl rfl)); replace HB := mk_ (hb); replace HI0 := mk_ (hi)) | ((with_reducible refine gate_builtin (b := .append) (xs := #[.tmp 28, .tmp 31]) rfl ?_); at_builtin; refine Kd.R_append k29 w.heap.size rfl (.tmp 28) (.tmp 31) 32 29 (.agg #[(.int .i64 0), (.int .i64 0), (.int .i64 0), (.int .i64 0)]) 32 rfl Try.underlying32 info29 rfl (by decide) (by omega) u5 x5_1 (⟨t219, t220, t221, t222⟩ : S29) [.int .i64 t219, .int .i64 t220, .int .i64 t221, .int .i64 t222] (fun _ => True) (fun _ => False) rfl rfl ?aP (fun _ hk => hk.elim) ?aF ?aO (Below.refl _ _) ?aS ?aL ?_; (case aP => exact k29_mkM _ _ _ (⟨t219, t220, t221, t222⟩ : S29)); (case aF => exact (fun _ _ => trivial)); (case aO => exact (Kd.ur_ HO_5.out)); (case aS => exact (keep_size (w := w) (g := g) (row := none) (by repeat (first | (with_reducible first | exact HK.out | apply KeepBut.set_ | apply keep_drewN | apply keep_drew | apply keep_alloc) | exact HK.out)))); (case aL => have := LMc20.out; omega); intro v225 w23 ho hb hg hat; rw [← Ny224.out] at ho; have n0_ := mk_ (IsS107.grown (by repeat (first | (with_reducible first | exact HI0.out | apply IsS107.alloc | apply IsS107.drewN | apply IsS107.drew | apply IsS107.set_1) | exact HI0.out)) hg (IsS107.own_ne HI0.out HO_5.out (by decide))); replace HB := mk_ (below_weaken (by repeat (first | (with_reducible first | exact HB.out | apply na_ | apply nn_ | apply nw_ | refine bs_ ?_ (IsS107.ge HI0.out)) | exact HB.out)) HL.out hb); replace HK := mk_ (KeepBut.trans (by repeat (first | (with_reducible first | exact HK.out | apply KeepBut.set_ | apply keep_drewN | apply keep_drew | apply keep_alloc) | exact HK.out)) (KeepBut.of_grown hg g) (Kd.R_base2 HO_5.out)); have HO226 := mk_ (ho); replace HI0 := n0_; clear n0_; clear HO_5; clear ho hb hg hat))
   go_ret
   exact ⟨_, by first | rfl | (simp [errW_none, errW_some] <;> rfl) | (simp [*, errW_none, errW_some] <;> rfl), by (with_reducible repeat (first | apply Kd.R_alloc | apply Kd.R_drewN | apply Kd.R_drew)); exact HO226.out, by repeat (first | (with_reducible first | exact HI0.out | apply IsS107.alloc | apply IsS107.drewN | apply IsS107.drew | apply IsS107.set_1) | exact HI0.out), by repeat (first | (with_reducible first | exact HB.out | apply na_ | apply nn_ | apply nw_ | refine bs_ ?_ (IsS107.ge HI0.out)) | exact HB.out), by repeat (first | (with_reducible first | exact HK.out | apply KeepBut.set_ | apply keep_drewN | apply keep_drew | apply keep_alloc) | exact HK.out)⟩

/-! ### spec_DrawRouteDrop: function 38 -/
def spec_DrawRouteDrop.f (k : Nat) (l0 : List Int) : Option ((List (S29)) × Int × Int) := (spec_l20Open.f l0).bind fun bt227 => ((spec_l20Routes.f k bt227.1 bt227.2 15).bind fun bt230 => ((spec_l20Route.f k bt227.1 bt230.2 0).bind fun bt234 => (if (bt230.1.length : Int) > 0 then ((spec_l20Rd_pick.f k bt227.1 bt234.2.2.2.2 3).bind fun bt240 => (if bt240.1 > 0 then ((spec_l20Rd_pick.f k bt227.1 bt240.2 (bt230.1.length : Int)).bind fun bt242 => (if 0 ≤ bt242.1 then (if bt242.1 < (bt230.1.length : Int) then (some (bt230.1, (rd_T29 bt230.1 bt242.1).f0, (rd_T29 bt230.1 bt242.1).f1)) else (none)) else (none))) else (some (bt230.1, bt234.1, bt234.2.1)))) else (some (bt230.1, bt234.1, bt234.2.1)))))
theorem spec_DrawRouteDrop.mono : ∀ a0 k, LeO (spec_DrawRouteDrop.f k a0) (spec_DrawRouteDrop.f (k + 1) a0) := by
 intro a0 k
 unfold spec_DrawRouteDrop.f
 repeat' first
   | (with_reducible exact spec_l20Rd_pick.mono _ _ _ _)
   | (with_reducible exact spec_l20Route.mono _ _ _ _)
   | (with_reducible exact spec_l20Routes.mono _ _ _ _)
   | (with_reducible exact LeO.refl _)
   | (with_reducible exact LeO.none _)
   | (with_reducible refine LeO.ite ?_ ?_)
   | (with_reducible refine LeO.bind ?_ (fun _ => ?_))
   | exact spec_l20Rd_pick.mono _ _ _ _
   | exact spec_l20Route.mono _ _ _ _
   | exact spec_l20Routes.mono _ _ _ _
   | exact LeO.none _
   | refine LeO.ite ?_ ?_
   | refine LeO.bind ?_ (fun _ => ?_)
set_option maxHeartbeats 8000000 in
set_option maxRecDepth 100000 in
theorem spec_DrawRouteDrop.calls (k : Nat) (A0 : Option Addr) (c0 : Nat) (l0 : List Int) (r1 : List (S29)) (r2 : Int) (r3 : Int) (w : World) (hr0 : Kd.C (Kd.int .u8) w A0 l0.length l0) (hc0 : l0.length ≤ c0) (h : spec_DrawRouteDrop.f k l0 = some (r1, r2, r3)) :
  Calls Try.prog 38 #[.slice A0 l0.length c0] w fun e w' => ∃ v0_ : Value, e = .returned (.tuple #[v0_, .int .i64 r2, .int .i64 r3]) ∧ Kd.R k29 29 w' w.heap.size (fun _ => True) v0_ r1 ∧ Below w.heap.size w w' := by
 have hu29 := Try.underlying29
 have HR0 := mk_ hr0
 have HC0 := mk_ hc0
 clear hr0 hc0
 have HB := mk_ (Below.refl w.heap.size w)
 have H := h
 unfold spec_DrawRouteDrop.f at H
 clear h
 replace H := Option.bind_eq_some_iff.mp H
 obtain ⟨⟨t227, t228⟩, A20, H⟩ := H
 (try dsimp only at H)
 have A2 := mk_ A20
 clear A20
 replace H := Option.bind_eq_some_iff.mp H
 obtain ⟨⟨t230, t233⟩, A30, H⟩ := H
 (try dsimp only at H)
 have A3 := mk_ A30
 clear A30
 replace H := Option.bind_eq_some_iff.mp H
 obtain ⟨⟨t234, t235, t236, t237, t238⟩, A40, H⟩ := H
 (try dsimp only at H)
 have A4 := mk_ A40
 clear A40
 by_cases c5 : (t230.length : Int) > 0
 rotate_left
 focus
  rw [if_neg c5] at H
  have c5b0 : decide (0 < (t230.length : Int)) = false := decide_eq_false c5
  have c5b1 : decide (0 < t230.length) = false := decide_eq_false (by omega)
  clear c5
  simp only [Option.some.injEq, Prod.mk.injEq] at H
  obtain ⟨rfl, rfl, rfl⟩ := H
 rotate_left
 focus
  rw [if_pos c5] at H
  have c5b0 : decide (0 < (t230.length : Int)) = true := decide_eq_true c5
  have c5b1 : decide (0 < t230.length) = true := decide_eq_true (by omega)
  clear c5
  replace H := Option.bind_eq_some_iff.mp H
  obtain ⟨⟨t240, t241⟩, A60, H⟩ := H
  (try dsimp only at H)
  have A6 := mk_ A60
  clear A60
  by_cases c7 : t240 > 0
  rotate_left
  focus
   rw [if_neg c7] at H
   have c7b0 : decide (0 < t240) = false := decide_eq_false c7
   clear c7
   simp only [Option.some.injEq, Prod.mk.injEq] at H
   obtain ⟨rfl, rfl, rfl⟩ := H
  rotate_left
  focus
   rw [if_pos c7] at H
   have c7b0 : decide (0 < t240) = true := decide_eq_true c7
   clear c7
   replace H := Option.bind_eq_some_iff.mp H
   obtain ⟨⟨t242, t243⟩, A80, H⟩ := H
   (try dsimp only at H)
   have A8 := mk_ A80
   clear A80
   by_cases c9 : 0 ≤ t242
   rotate_left
   ·rw [if_neg c9] at H
    exact absurd H (by simp)
   rw [if_pos c9] at H
   have c9b0 : decide (0 ≤ t242) = true := decide_eq_true c9
   clear c9
   by_cases c10 : t242 < (t230.length : Int)
   rotate_left
   ·rw [if_neg c10] at H
    exact absurd H (by simp)
   rw [if_pos c10] at H
   have c10b0 : decide (t242 < (t230.length : Int)) = true := decide_eq_true c10
   clear c10
   simp only [Option.some.injEq, Prod.mk.injEq] at H
   obtain ⟨rfl, rfl, rfl⟩ := H
  rotate_left
 rotate_left 2
 all_goals
  go_enter Try.func38, Try.ntmps38
  go_wp2_with (first | (go_at_call 44; (with_reducible refine (spec_l20Open.calls _ _ l0 t227 t228 w _ ?side1 ?side2 ?side3 A2.out).mono ?_); (case side1 => repeat (first | (with_reducible first | exact HB.out | apply na_ | apply nn_ | apply nw_) | exact HB.out)); (case side2 => exact HR0.out); (case side3 => exact HC0.out); rintro e w10120 ⟨g10121, rfl, hi, hb, hb10122⟩; replace HB := mk_ (hb); have HI10121 := mk_ (hi)) | (go_at_call 78; (with_reducible refine (spec_l20Routes.calls k g10121 t227 t228 15 t230 t233 w _ ?side1 ?side2 A3.out).mono ?_); (case side1 => repeat (first | (with_reducible first | exact HI10121.out | apply IsS107.alloc | apply IsS107.drewN | apply IsS107.drew | apply IsS107.set_1) | exact HI10121.out)); (case side2 => repeat (first | (with_reducible first | exact HB.out | apply na_ | apply nn_ | apply nw_ | refine bs_ ?_ (IsS107.ge HI10121.out)) | exact HB.out)); rintro e w10160 ⟨v10161, rfl, ho10162, hi, hb, hk⟩; have HO232 := mk_ (Kd.R_lower ho10162 (below_size (by repeat (first | (with_reducible first | exact HB.out | apply na_ | apply nn_ | apply nw_ | refine bs_ ?_ (IsS107.ge HI10121.out)) | exact HB.out)))); replace HB := mk_ (hb); replace HI10121 := mk_ (hi)) | (go_at_call 79; (with_reducible refine (spec_l20Route.calls k g10121 t227 t233 0 t234 t235 t236 t237 t238 w _ ?side1 ?side2 A4.out).mono ?_); (case side1 => repeat (first | (with_reducible first | exact HI10121.out | apply IsS107.alloc | apply IsS107.drewN | apply IsS107.drew | apply IsS107.set_1) | exact HI10121.out)); (case side2 => repeat (first | (with_reducible first | exact HB.out | apply na_ | apply nn_ | apply nw_ | refine bs_ ?_ (IsS107.ge HI10121.out)) | exact HB.out)); rintro e w10200 ⟨rfl, hi, hb, hk⟩; replace HO232 := mk_ (Kd.R_mono (Kd.R_keep (IsS107.apart (show IsS107 w _ g10121 t227 t233 from by repeat (first | (with_reducible first | exact HI10121.out | apply IsS107.alloc | apply IsS107.drewN | apply IsS107.drew | apply IsS107.set_1) | exact HI10121.out)) (Kd.ur_ HO232.out) (by decide)) hk (fun _ h => h.2)) (fun _ h => h.1)); replace HB := mk_ (hb); replace HI10121 := mk_ (hi)) | ((with_reducible refine gate_dst (N := 7) rfl ?_); refine box_event ?hg (N := 7) ?hd (cs := #[.int .i64 0, .int .i64 0, .int .i64 0, .int .i64 0]) (t := 29) ?hr ?_; (case hd => rfl); (case hg => rfl); (case hr => first | (go_simp; done) | (go_simp; rfl)); intro gb10240 hg w10241 hbox hb; replace HO232 := mk_ (Kd.R_below (Kd.R_elderB (Kd.ur_ HO232.out) gb10240 (Nat.le_of_eq hg.symm)) hb); have n1_ := mk_ (IsS107.below (by repeat (first | (with_reducible first | exact HI10121.out | apply IsS107.alloc | apply IsS107.drewN | apply IsS107.drew | apply IsS107.set_1) | exact HI10121.out)) hb); have n2_ := mk_ (below_step (by repeat (first | (with_reducible first | exact HB.out | apply na_ | apply nn_ | apply nw_ | refine bs_ ?_ (IsS107.ge HI10121.out)) | exact HB.out)) hb); have BK239 := mk_ (hbox); have GW239 := mk_ ((by rw [hg]; exact (below_size (by repeat (first | (with_reducible first | exact HB.out | apply na_ | apply nn_ | apply nw_ | refine bs_ ?_ (IsS107.ge HI10121.out)) | exact HB.out))) : w.heap.size ≤ gb10240)); have GE239 := ge_ ((by rw [hg]; exact (below_size (by repeat (first | (with_reducible first | exact HB.out | apply na_ | apply nn_ | apply nw_ | refine bs_ ?_ (IsS107.ge HI10121.out)) | exact HB.out))) : w.heap.size ≤ gb10240)); have NB229_239 := nq_ ((by rw [hg]; exact Nat.ne_of_lt (IsS107.lt (show IsS107 w _ g10121 t227 t238 from by repeat (first | (with_reducible first | exact HI10121.out | apply IsS107.alloc | apply IsS107.drewN | apply IsS107.drew | apply IsS107.set_1) | exact HI10121.out))) : g10121 ≠ gb10240)); have NB239_229 := nq_ ((by rw [hg]; exact Nat.ne_of_gt (IsS107.lt (show IsS107 w _ g10121 t227 t238 from by repeat (first | (with_reducible first | exact HI10121.out | apply IsS107.alloc | apply IsS107.drewN | apply IsS107.drew | apply IsS107.set_1) | exact HI10121.out))) : gb10240 ≠ g10121)); replace HI10121 := n1_; replace HB := n2_; clear n1_ n2_; clear hb hbox hg; have hnb2310229239 := NB239_229.out; have hnc2310229239 := NB229_239.out; obtain ⟨hcz2310239_0, hcz2310239_1, hcz2310239_2, hcz2310239_3, hfz2310239_0, hfz2310239_1, hfz2310239_2, hfz2310239_3⟩ := cells4_ BK239.out; obtain ⟨Ao2310232, co2310232, eo2310232⟩ := Kd.R_slice HO232.out; subst eo2310232) | (go_at_call 46; have hA_ := A6.out; (with_reducible refine (spec_l20Rd_pick.calls k g10121 t227 t238 3 t240 t241 w _ ?side1 ?side2 A6.out).mono ?_); (case side1 => repeat (first | (with_reducible first | exact HI10121.out | apply IsS107.alloc | apply IsS107.drewN | apply IsS107.drew | apply IsS107.set_1 | refine IsS107.far ?_ NB229_239.out _) | exact HI10121.out)); (case side2 => repeat (first | (with_reducible first | exact HB.out | apply na_ | apply nn_ | apply nw_ | refine bs_ ?_ (IsS107.ge HI10121.out) | refine bs_ ?_ GE239.out) | exact HB.out)); rintro e w10320 ⟨rfl, hi, hb, hk⟩; replace HO232 := mk_ (Kd.R_mono (Kd.R_keep (IsS107.apart (show IsS107 w _ g10121 t227 t238 from by repeat (first | (with_reducible first | exact HI10121.out | apply IsS107.alloc | apply IsS107.drewN | apply IsS107.drew | apply IsS107.set_1 | refine IsS107.far ?_ NB229_239.out _) | exact HI10121.out)) (by (with_reducible repeat (first | apply Kd.R_alloc | apply Kd.R_drewN | apply Kd.R_drew)); exact (Kd.R_mono (Kd.R_far (p := ⟨gb10240, 3, none⟩) (Kd.R_far (p := ⟨gb10240, 2, none⟩) (Kd.R_far (p := ⟨gb10240, 1, none⟩) (Kd.R_far (p := ⟨gb10240, 0, none⟩) (Kd.R_mono HO232.out (fun k_ hk => (⟨hk, hk.2⟩ : _ ∧ k_ ≠ gb10240))) (fun _ hk => hk.2) (.int .i64 t234)) (fun _ hk => hk.2) (.int .i64 t235)) (fun _ hk => hk.2) (.int .i64 t236)) (fun _ hk => hk.2) (.int .i64 t237)) (fun _ h_ => by first | exact h_.1 | simp only [h_, ne_eq, not_false_eq_true, and_self]))) (by decide)) hk (fun _ h => h.2)) (fun _ h => h.1)); replace BK239 := mk_ (KeepBut.blk hk (g' := gb10240) (o := .cells #[.int .i64 t234, .int .i64 t235, .int .i64 t236, .int .i64 t237] 29 (0, 0)) (by (with_reducible repeat (first | refine bn_ ?_ _ | refine bw_ ?_ | refine ba_ ?_ _)); refine blk_put (cs := #[.int .i64 t234, .int .i64 t235, .int .i64 t236, .int .i64 0]) ?_ 3 _ rfl; (with_reducible repeat (first | refine bn_ ?_ _ | refine bw_ ?_ | refine ba_ ?_ _)); refine blk_put (cs := #[.int .i64 t234, .int .i64 t235, .int .i64 0, .int .i64 0]) ?_ 2 _ rfl; (with_reducible repeat (first | refine bn_ ?_ _ | refine bw_ ?_ | refine ba_ ?_ _)); refine blk_put (cs := #[.int .i64 t234, .int .i64 0, .int .i64 0, .int .i64 0]) ?_ 1 _ rfl; (with_reducible repeat (first | refine bn_ ?_ _ | refine bw_ ?_ | refine ba_ ?_ _)); refine blk_put (cs := #[.int .i64 0, .int .i64 0, .int .i64 0, .int .i64 0]) ?_ 0 _ rfl; (with_reducible repeat (first | refine bn_ ?_ _ | refine bw_ ?_ | refine ba_ ?_ _)); exact BK239.out) NB239_229.out (by simp)); replace HB := mk_ (hb); replace HI10121 := mk_ (hi); obtain ⟨hcz2330239_0, hcz2330239_1, hcz2330239_2, hcz2330239_3, hfz2330239_0, hfz2330239_1, hfz2330239_2, hfz2330239_3⟩ := cells4_ BK239.out; clear hA_ A6) | (go_at_call 46; have hA_ := A8.out; (with_reducible refine (spec_l20Rd_pick.calls k g10121 t227 t241 (t230.length : Int) t242 t243 w _ ?side1 ?side2 A8.out).mono ?_); (case side1 => repeat (first | (with_reducible first | exact HI10121.out | apply IsS107.alloc | apply IsS107.drewN | apply IsS107.drew | apply IsS107.set_1 | refine IsS107.far ?_ NB229_239.out _) | exact HI10121.out)); (case side2 => repeat (first | (with_reducible first | exact HB.out | apply na_ | apply nn_ | apply nw_ | refine bs_ ?_ (IsS107.ge HI10121.out) | refine bs_ ?_ GE239.out) | exact HB.out)); rintro e w10360 ⟨rfl, hi, hb, hk⟩; replace HO232 := mk_ (Kd.R_mono (Kd.R_keep (IsS107.apart (show IsS107 w _ g10121 t227 t241 from by repeat (first | (with_reducible first | exact HI10121.out | apply IsS107.alloc | apply IsS107.drewN | apply IsS107.drew | apply IsS107.set_1 | refine IsS107.far ?_ NB229_239.out _) | exact HI10121.out)) (Kd.ur_ HO232.out) (by decide)) hk (fun _ h => h.2)) (fun _ h => h.1)); replace BK239 := mk_ (KeepBut.blk hk (g' := gb10240) (o := .cells #[.int .i64 t234, .int .i64 t235, .int .i64 t236, .int .i64 t237] 29 (0, 0)) (u_ BK239.out) NB239_229.out (by simp)); replace HB := mk_ (hb); replace HI10121 := mk_ (hi); have p10361 : 0 ≤ (t242 : Int) := of_decide_eq_true (by first | (with_reducible assumption) | assumption); have q10361 : t242 < (t230.length : Int) := of_decide_eq_true (by first | (with_reducible assumption) | assumption); obtain ⟨ad10361, e10361, hx244_0, hx244_1, hx244_2, hx244_3⟩ := at_T29 (Kd.R_reads' HO232.out).2.2 t242 p10361 q10361; cases e10361; replace p10361 := eq_true p10361; replace q10361 := eq_true q10361; obtain ⟨hcz2340239_0, hcz2340239_1, hcz2340239_2, hcz2340239_3, hfz2340239_0, hfz2340239_1, hfz2340239_2, hfz2340239_3⟩ := cells4_ BK239.out; clear hA_ A8))
 ·repeat (go_quiet (first | (go_at_call 44; (with_reducible refine (spec_l20Open.calls _ _ l0 t227 t228 w _ ?side1 ?side2 ?side3 A2.out).mono ?_); (case side1 => repeat (first | (with_reducible first | exact HB.out | apply na_ | apply nn_ | apply nw_) | exact HB.out)); (case side2 => exact HR0.out); (case side3 => exact HC0.out); rintro e w10120 ⟨g10121, rfl, hi, hb, hb10122⟩; replace HB := mk_ (hb); have HI10121 := mk_ (hi)) | (go_at_call 78; (with_reducible refine (spec_l20Routes.calls k g10121 t227 t228 15 t230 t233 w _ ?side1 ?side2 A3.out).mono ?_); (case side1 => repeat (first | (with_reducible first | exact HI10121.out | apply IsS107.alloc | apply IsS107.drewN | apply IsS107.drew | apply IsS107.set_1) | exact HI10121.out)); (case side2 => repeat (first | (with_reducible first | exact HB.out | apply na_ | apply nn_ | apply nw_ | refine bs_ ?_ (IsS107.ge HI10121.out)) | exact HB.out)); rintro e w10160 ⟨v10161, rfl, ho10162, hi, hb, hk⟩; have HO232 := mk_ (Kd.R_lower ho10162 (below_size (by repeat (first | (with_reducible first | exact HB.out | apply na_ | apply nn_ | apply nw_ | refine bs_ ?_ (IsS107.ge HI10121.out)) | exact HB.out)))); replace HB := mk_ (hb); replace HI10121 := mk_ (hi)) | (go_at_call 79; (with_reducible refine (spec_l20Route.calls k g10121 t227 t233 0 t234 t235 t236 t237 t238 w _ ?side1 ?side2 A4.out).mono ?_); (case side1 => repeat (first | (with_reducible first | exact HI10121.out | apply IsS107.alloc | apply IsS107.drewN | apply IsS107.drew | apply IsS107.set_1) | exact HI10121.out)); (case side2 => repeat (first | (with_reducible first | exact HB.out | apply na_ | apply nn_ | apply nw_ | refine bs_ ?_ (IsS107.ge HI10121.out)) | exact HB.out)); rintro e w10200 ⟨rfl, hi, hb, hk⟩; replace HO232 := mk_ (Kd.R_mono (Kd.R_keep (IsS107.apart (show IsS107 w _ g10121 t227 t233 from by repeat (first | (with_reducible first | exact HI10121.out | apply IsS107.alloc | apply IsS107.drewN | apply IsS107.drew | apply IsS107.set_1) | exact HI10121.out)) (Kd.ur_ HO232.out) (by decide)) hk (fun _ h => h.2)) (fun _ h => h.1)); replace HB := mk_ (hb); replace HI10121 := mk_ (hi)) | ((with_reducible refine gate_dst (N := 7) rfl ?_); refine box_event ?hg (N := 7) ?hd (cs := #[.int .i64 0, .int .i64 0, .int .i64 0, .int .i64 0]) (t := 29) ?hr ?_; (case hd => rfl); (case hg => rfl); (case hr => first | (go_simp; done) | (go_simp; rfl)); intro gb10240 hg w10241 hbox hb; replace HO232 := mk_ (Kd.R_below (Kd.R_elderB (Kd.ur_ HO232.out) gb10240 (Nat.le_of_eq hg.symm)) hb); have n1_ := mk_ (IsS107.below (by repeat (first | (with_reducible first | exact HI10121.out | apply IsS107.alloc | apply IsS107.drewN | apply IsS107.drew | apply IsS107.set_1) | exact HI10121.out)) hb); have n2_ := mk_ (below_step (by repeat (first | (with_reducible first | exact HB.out | apply na_ | apply nn_ | apply nw_ | refine bs_ ?_ (IsS107.ge HI10121.out)) | exact HB.out)) hb); have BK239 := mk_ (hbox); have GW239 := mk_ ((by rw [hg]; exact (below_size (by repeat (first | (with_reducible first | exact HB.out | apply na_ | apply nn_ | apply nw_ | refine bs_ ?_ (IsS107.ge HI10121.out)) | exact HB.out))) : w.heap.size ≤ gb10240)); have GE239 := ge_ ((by rw [hg]; exact (below_size (by repeat (first | (with_reducible first | exact HB.out | apply na_ | apply nn_ | apply nw_ | refine bs_ ?_ (IsS107.ge HI10121.out)) | exact HB.out))) : w.heap.size ≤ gb10240)); have NB229_239 := nq_ ((by rw [hg]; exact Nat.ne_of_lt (IsS107.lt (show IsS107 w _ g10121 t227 t238 from by repeat (first | (with_reducible first | exact HI10121.out | apply IsS107.alloc | apply IsS107.drewN | apply IsS107.drew | apply IsS107.set_1) | exact HI10121.out))) : g10121 ≠ gb10240)); have NB239_229 := nq_ ((by rw [hg]; exact Nat.ne_of_gt (IsS107.lt (show IsS107 w _ g10121 t227 t238 from by repeat (first | (with_reducible first | exact HI10121.out | apply IsS107.alloc | apply IsS107.drewN | apply IsS107.drew | apply IsS107.set_1) | exact HI10121.out))) : gb10240 ≠ g10121)); replace HI10121 := n1_; replace HB := n2_; clear n1_ n2_; clear hb hbox hg; have hnb2310229239 := NB239_229.out; have hnc2310229239 := NB229_239.out; obtain ⟨hcz2310239_0, hcz2310239_1, hcz2310239_2, hcz2310239_3, hfz2310239_0, hfz2310239_1, hfz2310239_2, hfz2310239_3⟩ := cells4_ BK239.out; obtain ⟨Ao2310232, co2310232, eo2310232⟩ := Kd.R_slice HO232.out; subst eo2310232)); try go_wp2_with (first | (go_at_call 44; (with_reducible refine (spec_l20Open.calls _ _ l0 t227 t228 w _ ?side1 ?side2 ?side3 A2.out).mono ?_); (case side1 => repeat (first | (with_reducible first | exact HB.out | apply na_ | apply nn_ | apply nw_) | exact HB.out)); (case side2 => exact HR0.out); (case side3 => exact HC0.out); rintro e w10120 ⟨g10121, rfl, hi, hb, hb10122⟩; replace HB := mk_ (hb); have HI10121 := mk_ (hi)) | (go_at_call 78; (with_reducible refine (spec_l20Routes.calls k g10121 t227 t228 15 t230 t233 w _ ?side1 ?side2 A3.out).mono ?_); (case side1 => repeat (first | (with_reducible first | exact HI10121.out | apply IsS107.alloc | apply IsS107.drewN | apply IsS107.drew | apply IsS107.set_1) | exact HI10121.out)); (case side2 => repeat (first | (with_reducible first | exact HB.out | apply na_ | apply nn_ | apply nw_ | refine bs_ ?_ (IsS107.ge HI10121.out)) | exact HB.out)); rintro e w10160 ⟨v10161, rfl, ho10162, hi, hb, hk⟩; have HO232 := mk_ (Kd.R_lower ho10162 (below_size (by repeat (first | (with_reducible first | exact HB.out | apply na_ | apply nn_ | apply nw_ | refine bs_ ?_ (IsS107.ge HI10121.out)) | exact HB.out)))); replace HB := mk_ (hb); replace HI10121 := mk_ (hi)) | (go_at_call 79; (with_reducible refine (spec_l20Route.calls k g10121 t227 t233 0 t234 t235 t236 t237 t238 w _ ?side1 ?side2 A4.out).mono ?_); (case side1 => repeat (first | (with_reducible first | exact HI10121.out | apply IsS107.alloc | apply IsS107.drewN | apply IsS107.drew | apply IsS107.set_1) | exact HI10121.out)); (case side2 => repeat (first | (with_reducible first | exact HB.out | apply na_ | apply nn_ | apply nw_ | refine bs_ ?_ (IsS107.ge HI10121.out)) | exact HB.out)); rintro e w10200 ⟨rfl, hi, hb, hk⟩; replace HO232 := mk_ (Kd.R_mono (Kd.R_keep (IsS107.apart (show IsS107 w _ g10121 t227 t233 from by repeat (first | (with_reducible first | exact HI10121.out | apply IsS107.alloc | apply IsS107.drewN | apply IsS107.drew | apply IsS107.set_1) | exact HI10121.out)) (Kd.ur_ HO232.out) (by decide)) hk (fun _ h => h.2)) (fun _ h => h.1)); replace HB := mk_ (hb); replace HI10121 := mk_ (hi)) | ((with_reducible refine gate_dst (N := 7) rfl ?_); refine box_event ?hg (N := 7) ?hd (cs := #[.int .i64 0, .int .i64 0, .int .i64 0, .int .i64 0]) (t := 29) ?hr ?_; (case hd => rfl); (case hg => rfl); (case hr => first | (go_simp; done) | (go_simp; rfl)); intro gb10240 hg w10241 hbox hb; replace HO232 := mk_ (Kd.R_below (Kd.R_elderB (Kd.ur_ HO232.out) gb10240 (Nat.le_of_eq hg.symm)) hb); have n1_ := mk_ (IsS107.below (by repeat (first | (with_reducible first | exact HI10121.out | apply IsS107.alloc | apply IsS107.drewN | apply IsS107.drew | apply IsS107.set_1) | exact HI10121.out)) hb); have n2_ := mk_ (below_step (by repeat (first | (with_reducible first | exact HB.out | apply na_ | apply nn_ | apply nw_ | refine bs_ ?_ (IsS107.ge HI10121.out)) | exact HB.out)) hb); have BK239 := mk_ (hbox); have GW239 := mk_ ((by rw [hg]; exact (below_size (by repeat (first | (with_reducible first | exact HB.out | apply na_ | apply nn_ | apply nw_ | refine bs_ ?_ (IsS107.ge HI10121.out)) | exact HB.out))) : w.heap.size ≤ gb10240)); have GE239 := ge_ ((by rw [hg]; exact (below_size (by repeat (first | (with_reducible first | exact HB.out | apply na_ | apply nn_ | apply nw_ | refine bs_ ?_ (IsS107.ge HI10121.out)) | exact HB.out))) : w.heap.size ≤ gb10240)); have NB229_239 := nq_ ((by rw [hg]; exact Nat.ne_of_lt (IsS107.lt (show IsS107 w _ g10121 t227 t238 from by repeat (first | (with_reducible first | exact HI10121.out | apply IsS107.alloc | apply IsS107.drewN | apply IsS107.drew | apply IsS107.set_1) | exact HI10121.out))) : g10121 ≠ gb10240)); have NB239_229 := nq_ ((by rw [hg]; exact Nat.ne_of_gt (IsS107.lt (show IsS107 w _ g10121 t227 t238 from by repeat (first | (with_reducible first | exact HI10121.out | apply IsS107.alloc | apply IsS107.drewN | apply IsS107.drew | apply IsS107.set_1) | exact HI10121.out))) : gb10240 ≠ g10121)); replace HI10121 := n1_; replace HB := n2_; clear n1_ n2_; clear hb hbox hg; have hnb2310229239 := NB239_229.out; have hnc2310229239 := NB229_239.out; obtain ⟨hcz2310239_0, hcz2310239_1, hcz2310239_2, hcz2310239_3, hfz2310239_0, hfz2310239_1, hfz2310239_2, hfz2310239_3⟩ := cells4_ BK239.out; obtain ⟨Ao2310232, co2310232, eo2310232⟩ := Kd.R_slice HO232.out; subst eo2310232)))
  go_ret3
  exact ⟨_, by first | rfl | (simp [errW_none, errW_some] <;> rfl) | (simp [*, errW_none, errW_some] <;> rfl), by (with_reducible repeat (first | apply Kd.R_alloc | apply Kd.R_drewN | apply Kd.R_drew)); exact Kd.R_mono (Kd.R_far (p := ⟨gb10240, 3, none⟩) (Kd.R_far (p := ⟨gb10240, 2, none⟩) (Kd.R_far (p := ⟨gb10240, 1, none⟩) (Kd.R_far (p := ⟨gb10240, 0, none⟩) (Kd.R_mono HO232.out (fun k_ hk => (⟨hk, hk.2⟩ : _ ∧ k_ ≠ gb10240))) (fun _ hk => hk.2) (.int .i64 t234)) (fun _ hk => hk.2) (.int .i64 t235)) (fun _ hk => hk.2) (.int .i64 t236)) (fun _ hk => hk.2) (.int .i64 t237)) (fun _ hk => trivial), by repeat (first | (with_reducible first | exact HB.out | apply na_ | apply nn_ | apply nw_ | refine bs_ ?_ (IsS107.ge HI10121.out) | refine bs_ ?_ GE239.out) | exact HB.out)⟩
 ·repeat (go_quiet (first | (go_at_call 44; (with_reducible refine (spec_l20Open.calls _ _ l0 t227 t228 w _ ?side1 ?side2 ?side3 A2.out).mono ?_); (case side1 => repeat (first | (with_reducible first | exact HB.out | apply na_ | apply nn_ | apply nw_) | exact HB.out)); (case side2 => exact HR0.out); (case side3 => exact HC0.out); rintro e w10120 ⟨g10121, rfl, hi, hb, hb10122⟩; replace HB := mk_ (hb); have HI10121 := mk_ (hi)) | (go_at_call 78; (with_reducible refine (spec_l20Routes.calls k g10121 t227 t228 15 t230 t233 w _ ?side1 ?side2 A3.out).mono ?_); (case side1 => repeat (first | (with_reducible first | exact HI10121.out | apply IsS107.alloc | apply IsS107.drewN | apply IsS107.drew | apply IsS107.set_1) | exact HI10121.out)); (case side2 => repeat (first | (with_reducible first | exact HB.out | apply na_ | apply nn_ | apply nw_ | refine bs_ ?_ (IsS107.ge HI10121.out)) | exact HB.out)); rintro e w10160 ⟨v10161, rfl, ho10162, hi, hb, hk⟩; have HO232 := mk_ (Kd.R_lower ho10162 (below_size (by repeat (first | (with_reducible first | exact HB.out | apply na_ | apply nn_ | apply nw_ | refine bs_ ?_ (IsS107.ge HI10121.out)) | exact HB.out)))); replace HB := mk_ (hb); replace HI10121 := mk_ (hi)) | (go_at_call 79; (with_reducible refine (spec_l20Route.calls k g10121 t227 t233 0 t234 t235 t236 t237 t238 w _ ?side1 ?side2 A4.out).mono ?_); (case side1 => repeat (first | (with_reducible first | exact HI10121.out | apply IsS107.alloc | apply IsS107.drewN | apply IsS107.drew | apply IsS107.set_1) | exact HI10121.out)); (case side2 => repeat (first | (with_reducible first | exact HB.out | apply na_ | apply nn_ | apply nw_ | refine bs_ ?_ (IsS107.ge HI10121.out)) | exact HB.out)); rintro e w10200 ⟨rfl, hi, hb, hk⟩; replace HO232 := mk_ (Kd.R_mono (Kd.R_keep (IsS107.apart (show IsS107 w _ g10121 t227 t233 from by repeat (first | (with_reducible first | exact HI10121.out | apply IsS107.alloc | apply IsS107.drewN | apply IsS107.drew | apply IsS107.set_1) | exact HI10121.out)) (Kd.ur_ HO232.out) (by decide)) hk (fun _ h => h.2)) (fun _ h => h.1)); replace HB := mk_ (hb); replace HI10121 := mk_ (hi)) | ((with_reducible refine gate_dst (N := 7) rfl ?_); refine box_event ?hg (N := 7) ?hd (cs := #[.int .i64 0, .int .i64 0, .int .i64 0, .int .i64 0]) (t := 29) ?hr ?_; (case hd => rfl); (case hg => rfl); (case hr => first | (go_simp; done) | (go_simp; rfl)); intro gb10240 hg w10241 hbox hb; replace HO232 := mk_ (Kd.R_below (Kd.R_elderB (Kd.ur_ HO232.out) gb10240 (Nat.le_of_eq hg.symm)) hb); have n1_ := mk_ (IsS107.below (by repeat (first | (with_reducible first | exact HI10121.out | apply IsS107.alloc | apply IsS107.drewN | apply IsS107.drew | apply IsS107.set_1) | exact HI10121.out)) hb); have n2_ := mk_ (below_step (by repeat (first | (with_reducible first | exact HB.out | apply na_ | apply nn_ | apply nw_ | refine bs_ ?_ (IsS107.ge HI10121.out)) | exact HB.out)) hb); have BK239 := mk_ (hbox); have GW239 := mk_ ((by rw [hg]; exact (below_size (by repeat (first | (with_reducible first | exact HB.out | apply na_ | apply nn_ | apply nw_ | refine bs_ ?_ (IsS107.ge HI10121.out)) | exact HB.out))) : w.heap.size ≤ gb10240)); have GE239 := ge_ ((by rw [hg]; exact (below_size (by repeat (first | (with_reducible first | exact HB.out | apply na_ | apply nn_ | apply nw_ | refine bs_ ?_ (IsS107.ge HI10121.out)) | exact HB.out))) : w.heap.size ≤ gb10240)); have NB229_239 := nq_ ((by rw [hg]; exact Nat.ne_of_lt (IsS107.lt (show IsS107 w _ g10121 t227 t238 from by repeat (first | (with_reducible first | exact HI10121.out | apply IsS107.alloc | apply IsS107.drewN | apply IsS107.drew | apply IsS107.set_1) | exact HI10121.out))) : g10121 ≠ gb10240)); have NB239_229 := nq_ ((by rw [hg]; exact Nat.ne_of_gt (IsS107.lt (show IsS107 w _ g10121 t227 t238 from by repeat (first | (with_reducible first | exact HI10121.out | apply IsS107.alloc | apply IsS107.drewN | apply IsS107.drew | apply IsS107.set_1) | exact HI10121.out))) : gb10240 ≠ g10121)); replace HI10121 := n1_; replace HB := n2_; clear n1_ n2_; clear hb hbox hg; have hnb2310229239 := NB239_229.out; have hnc2310229239 := NB229_239.out; obtain ⟨hcz2310239_0, hcz2310239_1, hcz2310239_2, hcz2310239_3, hfz2310239_0, hfz2310239_1, hfz2310239_2, hfz2310239_3⟩ := cells4_ BK239.out; obtain ⟨Ao2310232, co2310232, eo2310232⟩ := Kd.R_slice HO232.out; subst eo2310232) | (go_at_call 46; (with_reducible refine (spec_l20Rd_pick.calls k g10121 t227 t238 3 t240 t241 w _ ?side1 ?side2 A6.out).mono ?_); (case side1 => repeat (first | (with_reducible first | exact HI10121.out | apply IsS107.alloc | apply IsS107.drewN | apply IsS107.drew | apply IsS107.set_1 | refine IsS107.far ?_ NB229_239.out _) | exact HI10121.out)); (case side2 => repeat (first | (with_reducible first | exact HB.out | apply na_ | apply nn_ | apply nw_ | refine bs_ ?_ (IsS107.ge HI10121.out) | refine bs_ ?_ GE239.out) | exact HB.out)); rintro e w10320 ⟨rfl, hi, hb, hk⟩; replace HO232 := mk_ (Kd.R_mono (Kd.R_keep (IsS107.apart (show IsS107 w _ g10121 t227 t238 from by repeat (first | (with_reducible first | exact HI10121.out | apply IsS107.alloc | apply IsS107.drewN | apply IsS107.drew | apply IsS107.set_1 | refine IsS107.far ?_ NB229_239.out _) | exact HI10121.out)) (by (with_reducible repeat (first | apply Kd.R_alloc | apply Kd.R_drewN | apply Kd.R_drew)); exact (Kd.R_mono (Kd.R_far (p := ⟨gb10240, 3, none⟩) (Kd.R_far (p := ⟨gb10240, 2, none⟩) (Kd.R_far (p := ⟨gb10240, 1, none⟩) (Kd.R_far (p := ⟨gb10240, 0, none⟩) (Kd.R_mono HO232.out (fun k_ hk => (⟨hk, hk.2⟩ : _ ∧ k_ ≠ gb10240))) (fun _ hk => hk.2) (.int .i64 t234)) (fun _ hk => hk.2) (.int .i64 t235)) (fun _ hk => hk.2) (.int .i64 t236)) (fun _ hk => hk.2) (.int .i64 t237)) (fun _ h_ => by first | exact h_.1 | simp only [h_, ne_eq, not_false_eq_true, and_self]))) (by decide)) hk (fun _ h => h.2)) (fun _ h => h.1)); replace BK239 := mk_ (KeepBut.blk hk (g' := gb10240) (o := .cells #[.int .i64 t234, .int .i64 t235, .int .i64 t236, .int .i64 t237] 29 (0, 0)) (by (with_reducible repeat (first | refine bn_ ?_ _ | refine bw_ ?_ | refine ba_ ?_ _)); refine blk_put (cs := #[.int .i64 t234, .int .i64 t235, .int .i64 t236, .int .i64 0]) ?_ 3 _ rfl; (with_reducible repeat (first | refine bn_ ?_ _ | refine bw_ ?_ | refine ba_ ?_ _)); refine blk_put (cs := #[.int .i64 t234, .int .i64 t235, .int .i64 0, .int .i64 0]) ?_ 2 _ rfl; (with_reducible repeat (first | refine bn_ ?_ _ | refine bw_ ?_ | refine ba_ ?_ _)); refine blk_put (cs := #[.int .i64 t234, .int .i64 0, .int .i64 0, .int .i64 0]) ?_ 1 _ rfl; (with_reducible repeat (first | refine bn_ ?_ _ | refine bw_ ?_ | refine ba_ ?_ _)); refine blk_put (cs := #[.int .i64 0, .int .i64 0, .int .i64 0, .int .i64 0]) ?_ 0 _ rfl; (with_reducible repeat (first | refine bn_ ?_ _ | refine bw_ ?_ | refine ba_ ?_ _)); exact BK239.out) NB239_229.out (by simp)); replace HB := mk_ (hb); replace HI10121 := mk_ (hi); obtain ⟨hcz2330239_0, hcz2330239_1, hcz2330239_2, hcz2330239_3, hfz2330239_0, hfz2330239_1, hfz2330239_2, hfz2330239_3⟩ := cells4_ BK239.out)); try go_wp2_with (first | (go_at_call 44; (with_reducible refine (spec_l20Open.calls _ _ l0 t227 t228 w _ ?side1 ?side2 ?side3 A2.out).mono ?_); (case side1 => repeat (first | (with_reducible first | exact HB.out | apply na_ | apply nn_ | apply nw_) | exact HB.out)); (case side2 => exact HR0.out); (case side3 => exact HC0.out); rintro e w10120 ⟨g10121, rfl, hi, hb, hb10122⟩; replace HB := mk_ (hb); have HI10121 := mk_ (hi)) | (go_at_call 78; (with_reducible refine (spec_l20Routes.calls k g10121 t227 t228 15 t230 t233 w _ ?side1 ?side2 A3.out).mono ?_); (case side1 => repeat (first | (with_reducible first | exact HI10121.out | apply IsS107.alloc | apply IsS107.drewN | apply IsS107.drew | apply IsS107.set_1) | exact HI10121.out)); (case side2 => repeat (first | (with_reducible first | exact HB.out | apply na_ | apply nn_ | apply nw_ | refine bs_ ?_ (IsS107.ge HI10121.out)) | exact HB.out)); rintro e w10160 ⟨v10161, rfl, ho10162, hi, hb, hk⟩; have HO232 := mk_ (Kd.R_lower ho10162 (below_size (by repeat (first | (with_reducible first | exact HB.out | apply na_ | apply nn_ | apply nw_ | refine bs_ ?_ (IsS107.ge HI10121.out)) | exact HB.out)))); replace HB := mk_ (hb); replace HI10121 := mk_ (hi)) | (go_at_call 79; (with_reducible refine (spec_l20Route.calls k g10121 t227 t233 0 t234 t235 t236 t237 t238 w _ ?side1 ?side2 A4.out).mono ?_); (case side1 => repeat (first | (with_reducible first | exact HI10121.out | apply IsS107.alloc | apply IsS107.drewN | apply IsS107.drew | apply IsS107.set_1) | exact HI10121.out)); (case side2 => repeat (first | (with_reducible first | exact HB.out | apply na_ | apply nn_ | apply nw_ | refine bs_ ?_ (IsS107.ge HI10121.out)) | exact HB.out)); rintro e w10200 ⟨rfl, hi, hb, hk⟩; replace HO232 := mk_ (Kd.R_mono (Kd.R_keep (IsS107.apart (show IsS107 w _ g10121 t227 t233 from by repeat (first | (with_reducible first | exact HI10121.out | apply IsS107.alloc | apply IsS107.drewN | apply IsS107.drew | apply IsS107.set_1) | exact HI10121.out)) (Kd.ur_ HO232.out) (by decide)) hk (fun _ h => h.2)) (fun _ h => h.1)); replace HB := mk_ (hb); replace HI10121 := mk_ (hi)) | ((with_reducible refine gate_dst (N := 7) rfl ?_); refine box_event ?hg (N := 7) ?hd (cs := #[.int .i64 0, .int .i64 0, .int .i64 0, .int .i64 0]) (t := 29) ?hr ?_; (case hd => rfl); (case hg => rfl); (case hr => first | (go_simp; done) | (go_simp; rfl)); intro gb10240 hg w10241 hbox hb; replace HO232 := mk_ (Kd.R_below (Kd.R_elderB (Kd.ur_ HO232.out) gb10240 (Nat.le_of_eq hg.symm)) hb); have n1_ := mk_ (IsS107.below (by repeat (first | (with_reducible first | exact HI10121.out | apply IsS107.alloc | apply IsS107.drewN | apply IsS107.drew | apply IsS107.set_1) | exact HI10121.out)) hb); have n2_ := mk_ (below_step (by repeat (first | (with_reducible first | exact HB.out | apply na_ | apply nn_ | apply nw_ | refine bs_ ?_ (IsS107.ge HI10121.out)) | exact HB.out)) hb); have BK239 := mk_ (hbox); have GW239 := mk_ ((by rw [hg]; exact (below_size (by repeat (first | (with_reducible first | exact HB.out | apply na_ | apply nn_ | apply nw_ | refine bs_ ?_ (IsS107.ge HI10121.out)) | exact HB.out))) : w.heap.size ≤ gb10240)); have GE239 := ge_ ((by rw [hg]; exact (below_size (by repeat (first | (with_reducible first | exact HB.out | apply na_ | apply nn_ | apply nw_ | refine bs_ ?_ (IsS107.ge HI10121.out)) | exact HB.out))) : w.heap.size ≤ gb10240)); have NB229_239 := nq_ ((by rw [hg]; exact Nat.ne_of_lt (IsS107.lt (show IsS107 w _ g10121 t227 t238 from by repeat (first | (with_reducible first | exact HI10121.out | apply IsS107.alloc | apply IsS107.drewN | apply IsS107.drew | apply IsS107.set_1) | exact HI10121.out))) : g10121 ≠ gb10240)); have NB239_229 := nq_ ((by rw [hg]; exact Nat.ne_of_gt (IsS107.lt (show IsS107 w _ g10121 t227 t238 from by repeat (first | (with_reducible first | exact HI10121.out | apply IsS107.alloc | apply IsS107.drewN | apply IsS107.drew | apply IsS107.set_1) | exact HI10121.out))) : gb10240 ≠ g10121)); replace HI10121 := n1_; replace HB := n2_; clear n1_ n2_; clear hb hbox hg; have hnb2310229239 := NB239_229.out; have hnc2310229239 := NB229_239.out; obtain ⟨hcz2310239_0, hcz2310239_1, hcz2310239_2, hcz2310239_3, hfz2310239_0, hfz2310239_1, hfz2310239_2, hfz2310239_3⟩ := cells4_ BK239.out; obtain ⟨Ao2310232, co2310232, eo2310232⟩ := Kd.R_slice HO232.out; subst eo2310232) | (go_at_call 46; (with_reducible refine (spec_l20Rd_pick.calls k g10121 t227 t238 3 t240 t241 w _ ?side1 ?side2 A6.out).mono ?_); (case side1 => repeat (first | (with_reducible first | exact HI10121.out | apply IsS107.alloc | apply IsS107.drewN | apply IsS107.drew | apply IsS107.set_1 | refine IsS107.far ?_ NB229_239.out _) | exact HI10121.out)); (case side2 => repeat (first | (with_reducible first | exact HB.out | apply na_ | apply nn_ | apply nw_ | refine bs_ ?_ (IsS107.ge HI10121.out) | refine bs_ ?_ GE239.out) | exact HB.out)); rintro e w10320 ⟨rfl, hi, hb, hk⟩; replace HO232 := mk_ (Kd.R_mono (Kd.R_keep (IsS107.apart (show IsS107 w _ g10121 t227 t238 from by repeat (first | (with_reducible first | exact HI10121.out | apply IsS107.alloc | apply IsS107.drewN | apply IsS107.drew | apply IsS107.set_1 | refine IsS107.far ?_ NB229_239.out _) | exact HI10121.out)) (by (with_reducible repeat (first | apply Kd.R_alloc | apply Kd.R_drewN | apply Kd.R_drew)); exact (Kd.R_mono (Kd.R_far (p := ⟨gb10240, 3, none⟩) (Kd.R_far (p := ⟨gb10240, 2, none⟩) (Kd.R_far (p := ⟨gb10240, 1, none⟩) (Kd.R_far (p := ⟨gb10240, 0, none⟩) (Kd.R_mono HO232.out (fun k_ hk => (⟨hk, hk.2⟩ : _ ∧ k_ ≠ gb10240))) (fun _ hk => hk.2) (.int .i64 t234)) (fun _ hk => hk.2) (.int .i64 t235)) (fun _ hk => hk.2) (.int .i64 t236)) (fun _ hk => hk.2) (.int .i64 t237)) (fun _ h_ => by first | exact h_.1 | simp only [h_, ne_eq, not_false_eq_true, and_self]))) (by decide)) hk (fun _ h => h.2)) (fun _ h => h.1)); replace BK239 := mk_ (KeepBut.blk hk (g' := gb10240) (o := .cells #[.int .i64 t234, .int .i64 t235, .int .i64 t236, .int .i64 t237] 29 (0, 0)) (by (with_reducible repeat (first | refine bn_ ?_ _ | refine bw_ ?_ | refine ba_ ?_ _)); refine blk_put (cs := #[.int .i64 t234, .int .i64 t235, .int .i64 t236, .int .i64 0]) ?_ 3 _ rfl; (with_reducible repeat (first | refine bn_ ?_ _ | refine bw_ ?_ | refine ba_ ?_ _)); refine blk_put (cs := #[.int .i64 t234, .int .i64 t235, .int .i64 0, .int .i64 0]) ?_ 2 _ rfl; (with_reducible repeat (first | refine bn_ ?_ _ | refine bw_ ?_ | refine ba_ ?_ _)); refine blk_put (cs := #[.int .i64 t234, .int .i64 0, .int .i64 0, .int .i64 0]) ?_ 1 _ rfl; (with_reducible repeat (first | refine bn_ ?_ _ | refine bw_ ?_ | refine ba_ ?_ _)); refine blk_put (cs := #[.int .i64 0, .int .i64 0, .int .i64 0, .int .i64 0]) ?_ 0 _ rfl; (with_reducible repeat (first | refine bn_ ?_ _ | refine bw_ ?_ | refine ba_ ?_ _)); exact BK239.out) NB239_229.out (by simp)); replace HB := mk_ (hb); replace HI10121 := mk_ (hi); obtain ⟨hcz2330239_0, hcz2330239_1, hcz2330239_2, hcz2330239_3, hfz2330239_0, hfz2330239_1, hfz2330239_2, hfz2330239_3⟩ := cells4_ BK239.out)))
  go_ret3
  exact ⟨_, by first | rfl | (simp [errW_none, errW_some] <;> rfl) | (simp [*, errW_none, errW_some] <;> rfl), by (with_reducible repeat (first | apply Kd.R_alloc | apply Kd.R_drewN | apply Kd.R_drew)); exact Kd.R_mono HO232.out (fun _ hk => trivial), by repeat (first | (with_reducible first | exact HB.out | apply na_ | apply nn_ | apply nw_ | refine bs_ ?_ (IsS107.ge HI10121.out) | refine bs_ ?_ GE239.out) | exact HB.out)⟩
 ·repeat (go_quiet (first | (go_at_call 44; (with_reducible refine (spec_l20Open.calls _ _ l0 t227 t228 w _ ?side1 ?side2 ?side3 A2.out).mono ?_); (case side1 => repeat (first | (with_reducible first | exact HB.out | apply na_ | apply nn_ | apply nw_) | exact HB.out)); (case side2 => exact HR0.out); (case side3 => exact HC0.out); rintro e w10120 ⟨g10121, rfl, hi, hb, hb10122⟩; replace HB := mk_ (hb); have HI10121 := mk_ (hi)) | (go_at_call 78; (with_reducible refine (spec_l20Routes.calls k g10121 t227 t228 15 t230 t233 w _ ?side1 ?side2 A3.out).mono ?_); (case side1 => repeat (first | (with_reducible first | exact HI10121.out | apply IsS107.alloc | apply IsS107.drewN | apply IsS107.drew | apply IsS107.set_1) | exact HI10121.out)); (case side2 => repeat (first | (with_reducible first | exact HB.out | apply na_ | apply nn_ | apply nw_ | refine bs_ ?_ (IsS107.ge HI10121.out)) | exact HB.out)); rintro e w10160 ⟨v10161, rfl, ho10162, hi, hb, hk⟩; have HO232 := mk_ (Kd.R_lower ho10162 (below_size (by repeat (first | (with_reducible first | exact HB.out | apply na_ | apply nn_ | apply nw_ | refine bs_ ?_ (IsS107.ge HI10121.out)) | exact HB.out)))); replace HB := mk_ (hb); replace HI10121 := mk_ (hi)) | (go_at_call 79; (with_reducible refine (spec_l20Route.calls k g10121 t227 t233 0 t234 t235 t236 t237 t238 w _ ?side1 ?side2 A4.out).mono ?_); (case side1 => repeat (first | (with_reducible first | exact HI10121.out | apply IsS107.alloc | apply IsS107.drewN | apply IsS107.drew | apply IsS107.set_1) | exact HI10121.out)); (case side2 => repeat (first | (with_reducible first | exact HB.out | apply na_ | apply nn_ | apply nw_ | refine bs_ ?_ (IsS107.ge HI10121.out)) | exact HB.out)); rintro e w10200 ⟨rfl, hi, hb, hk⟩; replace HO232 := mk_ (Kd.R_mono (Kd.R_keep (IsS107.apart (show IsS107 w _ g10121 t227 t233 from by repeat (first | (with_reducible first | exact HI10121.out | apply IsS107.alloc | apply IsS107.drewN | apply IsS107.drew | apply IsS107.set_1) | exact HI10121.out)) (Kd.ur_ HO232.out) (by decide)) hk (fun _ h => h.2)) (fun _ h => h.1)); replace HB := mk_ (hb); replace HI10121 := mk_ (hi)) | ((with_reducible refine gate_dst (N := 7) rfl ?_); refine box_event ?hg (N := 7) ?hd (cs := #[.int .i64 0, .int .i64 0, .int .i64 0, .int .i64 0]) (t := 29) ?hr ?_; (case hd => rfl); (case hg => rfl); (case hr => first | (go_simp; done) | (go_simp; rfl)); intro gb10240 hg w10241 hbox hb; replace HO232 := mk_ (Kd.R_below (Kd.R_elderB (Kd.ur_ HO232.out) gb10240 (Nat.le_of_eq hg.symm)) hb); have n1_ := mk_ (IsS107.below (by repeat (first | (with_reducible first | exact HI10121.out | apply IsS107.alloc | apply IsS107.drewN | apply IsS107.drew | apply IsS107.set_1) | exact HI10121.out)) hb); have n2_ := mk_ (below_step (by repeat (first | (with_reducible first | exact HB.out | apply na_ | apply nn_ | apply nw_ | refine bs_ ?_ (IsS107.ge HI10121.out)) | exact HB.out)) hb); have BK239 := mk_ (hbox); have GW239 := mk_ ((by rw [hg]; exact (below_size (by repeat (first | (with_reducible first | exact HB.out | apply na_ | apply nn_ | apply nw_ | refine bs_ ?_ (IsS107.ge HI10121.out)) | exact HB.out))) : w.heap.size ≤ gb10240)); have GE239 := ge_ ((by rw [hg]; exact (below_size (by repeat (first | (with_reducible first | exact HB.out | apply na_ | apply nn_ | apply nw_ | refine bs_ ?_ (IsS107.ge HI10121.out)) | exact HB.out))) : w.heap.size ≤ gb10240)); have NB229_239 := nq_ ((by rw [hg]; exact Nat.ne_of_lt (IsS107.lt (show IsS107 w _ g10121 t227 t238 from by repeat (first | (with_reducible first | exact HI10121.out | apply IsS107.alloc | apply IsS107.drewN | apply IsS107.drew | apply IsS107.set_1) | exact HI10121.out))) : g10121 ≠ gb10240)); have NB239_229 := nq_ ((by rw [hg]; exact Nat.ne_of_gt (IsS107.lt (show IsS107 w _ g10121 t227 t238 from by repeat (first | (with_reducible first | exact HI10121.out | apply IsS107.alloc | apply IsS107.drewN | apply IsS107.drew | apply IsS107.set_1) | exact HI10121.out))) : gb10240 ≠ g10121)); replace HI10121 := n1_; replace HB := n2_; clear n1_ n2_; clear hb hbox hg; have hnb2310229239 := NB239_229.out; have hnc2310229239 := NB229_239.out; obtain ⟨hcz2310239_0, hcz2310239_1, hcz2310239_2, hcz2310239_3, hfz2310239_0, hfz2310239_1, hfz2310239_2, hfz2310239_3⟩ := cells4_ BK239.out; obtain ⟨Ao2310232, co2310232, eo2310232⟩ := Kd.R_slice HO232.out; subst eo2310232) | (go_at_call 46; (with_reducible refine (spec_l20Rd_pick.calls k g10121 t227 t238 3 t240 t241 w _ ?side1 ?side2 A6.out).mono ?_); (case side1 => repeat (first | (with_reducible first | exact HI10121.out | apply IsS107.alloc | apply IsS107.drewN | apply IsS107.drew | apply IsS107.set_1 | refine IsS107.far ?_ NB229_239.out _) | exact HI10121.out)); (case side2 => repeat (first | (with_reducible first | exact HB.out | apply na_ | apply nn_ | apply nw_ | refine bs_ ?_ (IsS107.ge HI10121.out) | refine bs_ ?_ GE239.out) | exact HB.out)); rintro e w10320 ⟨rfl, hi, hb, hk⟩; replace HO232 := mk_ (Kd.R_mono (Kd.R_keep (IsS107.apart (show IsS107 w _ g10121 t227 t238 from by repeat (first | (with_reducible first | exact HI10121.out | apply IsS107.alloc | apply IsS107.drewN | apply IsS107.drew | apply IsS107.set_1 | refine IsS107.far ?_ NB229_239.out _) | exact HI10121.out)) (by (with_reducible repeat (first | apply Kd.R_alloc | apply Kd.R_drewN | apply Kd.R_drew)); exact (Kd.R_mono (Kd.R_far (p := ⟨gb10240, 3, none⟩) (Kd.R_far (p := ⟨gb10240, 2, none⟩) (Kd.R_far (p := ⟨gb10240, 1, none⟩) (Kd.R_far (p := ⟨gb10240, 0, none⟩) (Kd.R_mono HO232.out (fun k_ hk => (⟨hk, hk.2⟩ : _ ∧ k_ ≠ gb10240))) (fun _ hk => hk.2) (.int .i64 t234)) (fun _ hk => hk.2) (.int .i64 t235)) (fun _ hk => hk.2) (.int .i64 t236)) (fun _ hk => hk.2) (.int .i64 t237)) (fun _ h_ => by first | exact h_.1 | simp only [h_, ne_eq, not_false_eq_true, and_self]))) (by decide)) hk (fun _ h => h.2)) (fun _ h => h.1)); replace BK239 := mk_ (KeepBut.blk hk (g' := gb10240) (o := .cells #[.int .i64 t234, .int .i64 t235, .int .i64 t236, .int .i64 t237] 29 (0, 0)) (by (with_reducible repeat (first | refine bn_ ?_ _ | refine bw_ ?_ | refine ba_ ?_ _)); refine blk_put (cs := #[.int .i64 t234, .int .i64 t235, .int .i64 t236, .int .i64 0]) ?_ 3 _ rfl; (with_reducible repeat (first | refine bn_ ?_ _ | refine bw_ ?_ | refine ba_ ?_ _)); refine blk_put (cs := #[.int .i64 t234, .int .i64 t235, .int .i64 0, .int .i64 0]) ?_ 2 _ rfl; (with_reducible repeat (first | refine bn_ ?_ _ | refine bw_ ?_ | refine ba_ ?_ _)); refine blk_put (cs := #[.int .i64 t234, .int .i64 0, .int .i64 0, .int .i64 0]) ?_ 1 _ rfl; (with_reducible repeat (first | refine bn_ ?_ _ | refine bw_ ?_ | refine ba_ ?_ _)); refine blk_put (cs := #[.int .i64 0, .int .i64 0, .int .i64 0, .int .i64 0]) ?_ 0 _ rfl; (with_reducible repeat (first | refine bn_ ?_ _ | refine bw_ ?_ | refine ba_ ?_ _)); exact BK239.out) NB239_229.out (by simp)); replace HB := mk_ (hb); replace HI10121 := mk_ (hi)) | (go_at_call 46; (with_reducible refine (spec_l20Rd_pick.calls k g10121 t227 t241 (t230.length : Int) t242 t243 w _ ?side1 ?side2 A8.out).mono ?_); (case side1 => repeat (first | (with_reducible first | exact HI10121.out | apply IsS107.alloc | apply IsS107.drewN | apply IsS107.drew | apply IsS107.set_1 | refine IsS107.far ?_ NB229_239.out _) | exact HI10121.out)); (case side2 => repeat (first | (with_reducible first | exact HB.out | apply na_ | apply nn_ | apply nw_ | refine bs_ ?_ (IsS107.ge HI10121.out) | refine bs_ ?_ GE239.out) | exact HB.out)); rintro e w10360 ⟨rfl, hi, hb, hk⟩; replace HO232 := mk_ (Kd.R_mono (Kd.R_keep (IsS107.apart (show IsS107 w _ g10121 t227 t241 from by repeat (first | (with_reducible first | exact HI10121.out | apply IsS107.alloc | apply IsS107.drewN | apply IsS107.drew | apply IsS107.set_1 | refine IsS107.far ?_ NB229_239.out _) | exact HI10121.out)) (Kd.ur_ HO232.out) (by decide)) hk (fun _ h => h.2)) (fun _ h => h.1)); replace BK239 := mk_ (KeepBut.blk hk (g' := gb10240) (o := .cells #[.int .i64 t234, .int .i64 t235, .int .i64 t236, .int .i64 t237] 29 (0, 0)) (u_ BK239.out) NB239_229.out (by simp)); replace HB := mk_ (hb); replace HI10121 := mk_ (hi); have p10361 : 0 ≤ (t242 : Int) := of_decide_eq_true (by first | (with_reducible assumption) | assumption); have q10361 : t242 < (t230.length : Int) := of_decide_eq_true (by first | (with_reducible assumption) | assumption); obtain ⟨ad10361, e10361, hx244_0, hx244_1, hx244_2, hx244_3⟩ := at_T29 (Kd.R_reads' HO232.out).2.2 t242 p10361 q10361; cases e10361; replace p10361 := eq_true p10361; replace q10361 := eq_true q10361; obtain ⟨hcz2340239_0, hcz2340239_1, hcz2340239_2, hcz2340239_3, hfz2340239_0, hfz2340239_1, hfz2340239_2, hfz2340239_3⟩ := cells4_ BK239.out)); try go_wp2_with (first | (go_at_call 44; (with_reducible refine (spec_l20Open.calls _ _ l0 t227 t228 w _ ?side1 ?side2 ?side3 A2.out).mono ?_); (case side1 => repeat (first | (with_reducible first | exact HB.out | apply na_ | apply nn_ | apply nw_) | exact HB.out)); (case side2 => exact HR0.out); (case side3 => exact HC0.out); rintro e w10120 ⟨g10121, rfl, hi, hb, hb10122⟩; replace HB := mk_ (hb); have HI10121 := mk_ (hi)) | (go_at_call 78; (with_reducible refine (spec_l20Routes.calls k g10121 t227 t228 15 t230 t233 w _ ?side1 ?side2 A3.out).mono ?_); (case side1 => repeat (first | (with_reducible first | exact HI10121.out | apply IsS107.alloc | apply IsS107.drewN | apply IsS107.drew | apply IsS107.set_1) | exact HI10121.out)); (case side2 => repeat (first | (with_reducible first | exact HB.out | apply na_ | apply nn_ | apply nw_ | refine bs_ ?_ (IsS107.ge HI10121.out)) | exact HB.out)); rintro e w10160 ⟨v10161, rfl, ho10162, hi, hb, hk⟩; have HO232 := mk_ (Kd.R_lower ho10162 (below_size (by repeat (first | (with_reducible first | exact HB.out | apply na_ | apply nn_ | apply nw_ | refine bs_ ?_ (IsS107.ge HI10121.out)) | exact HB.out)))); replace HB := mk_ (hb); replace HI10121 := mk_ (hi)) | (go_at_call 79; (with_reducible refine (spec_l20Route.calls k g10121 t227 t233 0 t234 t235 t236 t237 t238 w _ ?side1 ?side2 A4.out).mono ?_); (case side1 => repeat (first | (with_reducible first | exact HI10121.out | apply IsS107.alloc | apply IsS107.drewN | apply IsS107.drew | apply IsS107.set_1) | exact HI10121.out)); (case side2 => repeat (first | (with_reducible first | exact HB.out | apply na_ | apply nn_ | apply nw_ | refine bs_ ?_ (IsS107.ge HI10121.out)) | exact HB.out)); rintro e w10200 ⟨rfl, hi, hb, hk⟩; replace HO232 := mk_ (Kd.R_mono (Kd.R_keep (IsS107.apart (show IsS107 w _ g10121 t227 t233 from by repeat (first | (with_reducible first | exact HI10121.out | apply IsS107.alloc | apply IsS107.drewN | apply IsS107.drew | apply IsS107.set_1) | exact HI10121.out)) (Kd.ur_ HO232.out) (by decide)) hk (fun _ h => h.2)) (fun _ h => h.1)); replace HB := mk_ (hb); replace HI10121 := mk_ (hi)) | ((with_reducible refine gate_dst (N := 7) rfl ?_); refine box_event ?hg (N := 7) ?hd (cs := #[.int .i64 0, .int .i64 0, .int .i64 0, .int .i64 0]) (t := 29) ?hr ?_; (case hd => rfl); (case hg => rfl); (case hr => first | (go_simp; done) | (go_simp; rfl)); intro gb10240 hg w10241 hbox hb; replace HO232 := mk_ (Kd.R_below (Kd.R_elderB (Kd.ur_ HO232.out) gb10240 (Nat.le_of_eq hg.symm)) hb); have n1_ := mk_ (IsS107.below (by repeat (first | (with_reducible first | exact HI10121.out | apply IsS107.alloc | apply IsS107.drewN | apply IsS107.drew | apply IsS107.set_1) | exact HI10121.out)) hb); have n2_ := mk_ (below_step (by repeat (first | (with_reducible first | exact HB.out | apply na_ | apply nn_ | apply nw_ | refine bs_ ?_ (IsS107.ge HI10121.out)) | exact HB.out)) hb); have BK239 := mk_ (hbox); have GW239 := mk_ ((by rw [hg]; exact (below_size (by repeat (first | (with_reducible first | exact HB.out | apply na_ | apply nn_ | apply nw_ | refine bs_ ?_ (IsS107.ge HI10121.out)) | exact HB.out))) : w.heap.size ≤ gb10240)); have GE239 := ge_ ((by rw [hg]; exact (below_size (by repeat (first | (with_reducible first | exact HB.out | apply na_ | apply nn_ | apply nw_ | refine bs_ ?_ (IsS107.ge HI10121.out)) | exact HB.out))) : w.heap.size ≤ gb10240)); have NB229_239 := nq_ ((by rw [hg]; exact Nat.ne_of_lt (IsS107.lt (show IsS107 w _ g10121 t227 t238 from by repeat (first | (with_reducible first | exact HI10121.out | apply IsS107.alloc | apply IsS107.drewN | apply IsS107.drew | apply IsS107.set_1) | exact HI10121.out))) : g10121 ≠ gb10240)); have NB239_229 := nq_ ((by rw [hg]; exact Nat.ne_of_gt (IsS107.lt (show IsS107 w _ g10121 t227 t238 from by repeat (first | (with_reducible first | exact HI10121.out | apply IsS107.alloc | apply IsS107.drewN | apply IsS107.drew | apply IsS107.set_1) | exact HI10121.out))) : gb10240 ≠ g10121)); replace HI10121 := n1_; replace HB := n2_; clear n1_ n2_; clear hb hbox hg; have hnb2310229239 := NB239_229.out; have hnc2310229239 := NB229_239.out; obtain ⟨hcz2310239_0, hcz2310239_1, hcz2310239_2, hcz2310239_3, hfz2310239_0, hfz2310239_1, hfz2310239_2, hfz2310239_3⟩ := cells4_ BK239.out; obtain ⟨Ao2310232, co2310232, eo2310232⟩ := Kd.R_slice HO232.out; subst eo2310232) | (go_at_call 46; (with_reducible refine (spec_l20Rd_pick.calls k g10121 t227 t238 3 t240 t241 w _ ?side1 ?side2 A6.out).mono ?_); (case side1 => repeat (first | (with_reducible first | exact HI10121.out | apply IsS107.alloc | apply IsS107.drewN | apply IsS107.drew | apply IsS107.set_1 | refine IsS107.far ?_ NB229_239.out _) | exact HI10121.out)); (case side2 => repeat (first | (with_reducible first | exact HB.out | apply na_ | apply nn_ | apply nw_ | refine bs_ ?_ (IsS107.ge HI10121.out) | refine bs_ ?_ GE239.out) | exact HB.out)); rintro e w10320 ⟨rfl, hi, hb, hk⟩; replace HO232 := mk_ (Kd.R_mono (Kd.R_keep (IsS107.apart (show IsS107 w _ g10121 t227 t238 from by repeat (first | (with_reducible first | exact HI10121.out | apply IsS107.alloc | apply IsS107.drewN | apply IsS107.drew | apply IsS107.set_1 | refine IsS107.far ?_ NB229_239.out _) | exact HI10121.out)) (by (with_reducible repeat (first | apply Kd.R_alloc | apply Kd.R_drewN | apply Kd.R_drew)); exact (Kd.R_mono (Kd.R_far (p := ⟨gb10240, 3, none⟩) (Kd.R_far (p := ⟨gb10240, 2, none⟩) (Kd.R_far (p := ⟨gb10240, 1, none⟩) (Kd.R_far (p := ⟨gb10240, 0, none⟩) (Kd.R_mono HO232.out (fun k_ hk => (⟨hk, hk.2⟩ : _ ∧ k_ ≠ gb10240))) (fun _ hk => hk.2) (.int .i64 t234)) (fun _ hk => hk.2) (.int .i64 t235)) (fun _ hk => hk.2) (.int .i64 t236)) (fun _ hk => hk.2) (.int .i64 t237)) (fun _ h_ => by first | exact h_.1 | simp only [h_, ne_eq, not_false_eq_true, and_self]))) (by decide)) hk (fun _ h => h.2)) (fun _ h => h.1)); replace BK239 := mk_ (KeepBut.blk hk (g' := gb10240) (o := .cells #[.int .i64 t234, .int .i64 t235, .int .i64 t236, .int .i64 t237] 29 (0, 0)) (by (with_reducible repeat (first | refine bn_ ?_ _ | refine bw_ ?_ | refine ba_ ?_ _)); refine blk_put (cs := #[.int .i64 t234, .int .i64 t235, .int .i64 t236, .int .i64 0]) ?_ 3 _ rfl; (with_reducible repeat (first | refine bn_ ?_ _ | refine bw_ ?_ | refine ba_ ?_ _)); refine blk_put (cs := #[.int .i64 t234, .int .i64 t235, .int .i64 0, .int .i64 0]) ?_ 2 _ rfl; (with_reducible repeat (first | refine bn_ ?_ _ | refine bw_ ?_ | refine ba_ ?_ _)); refine blk_put (cs := #[.int .i64 t234, .int .i64 0, .int .i64 0, .int .i64 0]) ?_ 1 _ rfl; (with_reducible repeat (first | refine bn_ ?_ _ | refine bw_ ?_ | refine ba_ ?_ _)); refine blk_put (cs := #[.int .i64 0, .int .i64 0, .int .i64 0, .int .i64 0]) ?_ 0 _ rfl; (with_reducible repeat (first | refine bn_ ?_ _ | refine bw_ ?_ | refine ba_ ?_ _)); exact BK239.out) NB239_229.out (by simp)); replace HB := mk_ (hb); replace HI10121 := mk_ (hi)) | (go_at_call 46; (with_reducible refine (spec_l20Rd_pick.calls k g10121 t227 t241 (t230.length : Int) t242 t243 w _ ?side1 ?side2 A8.out).mono ?_); (case side1 => repeat (first | (with_reducible first | exact HI10121.out | apply IsS107.alloc | apply IsS107.drewN | apply IsS107.drew | apply IsS107.set_1 | refine IsS107.far ?_ NB229_239.out _) | exact HI10121.out)); (case side2 => repeat (first | (with_reducible first | exact HB.out | apply na_ | apply nn_ | apply nw_ | refine bs_ ?_ (IsS107.ge HI10121.out) | refine bs_ ?_ GE239.out) | exact HB.out)); rintro e w10360 ⟨rfl, hi, hb, hk⟩; replace HO232 := mk_ (Kd.R_mono (Kd.R_keep (IsS107.apart (show IsS107 w _ g10121 t227 t241 from by repeat (first | (with_reducible first | exact HI10121.out | apply IsS107.alloc | apply IsS107.drewN | apply IsS107.drew | apply IsS107.set_1 | refine IsS107.far ?_ NB229_239.out _) | exact HI10121.out)) (Kd.ur_ HO232.out) (by decide)) hk (fun _ h => h.2)) (fun _ h => h.1)); replace BK239 := mk_ (KeepBut.blk hk (g' := gb10240) (o := .cells #[.int .i64 t234, .int .i64 t235, .int .i64 t236, .int .i64 t237] 29 (0, 0)) (u_ BK239.out) NB239_229.out (by simp)); replace HB := mk_ (hb); replace HI10121 := mk_ (hi); have p10361 : 0 ≤ (t242 : Int) := of_decide_eq_true (by first | (with_reducible assumption) | assumption); have q10361 : t242 < (t230.length : Int) := of_decide_eq_true (by first | (with_reducible assumption) | assumption); obtain ⟨ad10361, e10361, hx244_0, hx244_1, hx244_2, hx244_3⟩ := at_T29 (Kd.R_reads' HO232.out).2.2 t242 p10361 q10361; cases e10361; replace p10361 := eq_true p10361; replace q10361 := eq_true q10361; obtain ⟨hcz2340239_0, hcz2340239_1, hcz2340239_2, hcz2340239_3, hfz2340239_0, hfz2340239_1, hfz2340239_2, hfz2340239_3⟩ := cells4_ BK239.out)))
  go_ret3
  exact ⟨_, by first | rfl | (simp [errW_none, errW_some] <;> rfl) | (simp [*, errW_none, errW_some] <;> rfl), by (with_reducible repeat (first | apply Kd.R_alloc | apply Kd.R_drewN | apply Kd.R_drew)); exact Kd.R_mono (Kd.R_far (p := ⟨gb10240, 3, none⟩) (Kd.R_far (p := ⟨gb10240, 2, none⟩) (Kd.R_far (p := ⟨gb10240, 1, none⟩) (Kd.R_far (p := ⟨gb10240, 0, none⟩) (Kd.R_mono HO232.out (fun k_ hk => (⟨hk, hk.2⟩ : _ ∧ k_ ≠ gb10240))) (fun _ hk => hk.2) (.int .i64 ((rd_T29 t230 t242).f0))) (fun _ hk => hk.2) (.int .i64 ((rd_T29 t230 t242).f1))) (fun _ hk => hk.2) (.int .i64 ((rd_T29 t230 t242).f2))) (fun _ hk => hk.2) (.int .i64 ((rd_T29 t230 t242).f3))) (fun _ hk => trivial), by repeat (first | (with_reducible first | exact HB.out | apply na_ | apply nn_ | apply nw_ | refine bs_ ?_ (IsS107.ge HI10121.out) | refine bs_ ?_ GE239.out) | exact HB.out)⟩

/-! ### impl_word: function 49 -/
def impl_word.f (a0 : Int) : Option (Bool) := (impl_in.f a0 0 65535).bind fun t245 => (some t245)
set_option maxHeartbeats 8000000 in
set_option maxRecDepth 100000 in
theorem impl_word.calls (a0 : Int) (r : Bool) (w : World) (h : impl_word.f a0 = some r) :
  Calls Try.prog 49 #[.int .i64 a0] w fun e w' => e = .returned (.bool r) ∧ Drawn0 w w' := by
 have H : ((impl_in.f a0 0 65535).bind fun t245 => (some t245)) = some r := h
 clear h
 replace H := Option.bind_eq_some_iff.mp H
 obtain ⟨t245, A20, H⟩ := H
 replace H : (some t245) = some r := H
 have A2 := mk_ A20
 clear A20
 obtain rfl := Option.some.inj H
 go_enter Try.func49, Try.ntmps49
 go_wp2_with (first | ((with_reducible refine gate_callee (f := 48) rfl ?_); refine goesL_ (some 4) rfl rfl Try.func48 (by kernel_rfl) rfl #[.int .i64 a0, .int .i64 0, .int .i64 65535] rfl (by (try simp only [lm_, lo_, ln_]); try rfl) ?_; (with_reducible refine (impl_in.calls a0 0 65535 t245 _ A2.out).mono ?_); rintro e w' ⟨rfl, ⟨nd, rfl⟩⟩; refine ⟨_, rfl, ?_⟩))
 go_ret
 exact ⟨by first | rfl | (simp; done) | (simp [*]; done), by repeat (first | exact Drawn0.refl _ | apply Drawn0.step)⟩

/-! ### impl_RouteOk: function 85 -/
def impl_RouteOk.f (a0_0 : Int) (a0_1 : Int) (a0_2 : Int) (a0_3 : Int) : Option (Bool) := (impl_in.f a0_1 0 16).bind fun t247 => (if t247 = true then ((impl_word.f a0_0).bind fun t248 => (if t248 = true then (if 0 ≤ (wrap64 (16 - a0_1)) then (if (shl .i64 1 (wrap64 (16 - a0_1))) = 0 then (none) else (if (Int.tmod a0_0 (shl .i64 1 (wrap64 (16 - a0_1)))) = 0 then ((impl_word.f a0_2).bind fun t249 => (if t249 = true then ((impl_in.f a0_3 1 48).bind fun t250 => (some t250)) else (some false))) else (some false))) else (none)) else (some false))) else (some false))
set_option maxHeartbeats 8000000 in
set_option maxRecDepth 100000 in
theorem impl_RouteOk.calls (a0_0 : Int) (a0_1 : Int) (a0_2 : Int) (a0_3 : Int) (r : Bool) (w : World) (h : impl_RouteOk.f a0_0 a0_1 a0_2 a0_3 = some r) :
  Calls Try.prog 85 #[.agg #[.int .i64 a0_0, .int .i64 a0_1, .int .i64 a0_2, .int .i64 a0_3]] w fun e w' => e = .returned (.bool r) ∧ Below w.heap.size w w' := by
 have hu29 := Try.underlying29
 have HB := mk_ (Below.refl w.heap.size w)
 have H := h
 unfold impl_RouteOk.f at H
 clear h
 replace H := Option.bind_eq_some_iff.mp H
 obtain ⟨t247, A20, H⟩ := H
 (try dsimp only at H)
 have A2 := mk_ A20
 clear A20
 by_cases c3 : t247 = true
 rotate_left
 focus
  replace c3 := Bool.eq_false_iff.mpr c3
  subst c3
  have H1 : (some false) = some r := by rw [if_neg (show ¬ (false = true) by decide)] at H; exact H
  clear H
  have H := H1
  clear H1
  obtain rfl := Option.some.inj H
 rotate_left
 focus
  subst c3
  rw [if_pos rfl] at H
  replace H := Option.bind_eq_some_iff.mp H
  obtain ⟨t248, A40, H⟩ := H
  (try dsimp only at H)
  have A4 := mk_ A40
  clear A40
  by_cases c5 : t248 = true
  rotate_left
  focus
   replace c5 := Bool.eq_false_iff.mpr c5
   subst c5
   have H1 : (some false) = some r := by rw [if_neg (show ¬ (false = true) by decide)] at H; exact H
   clear H
   have H := H1
   clear H1
   obtain rfl := Option.some.inj H
  rotate_left
  focus
   subst c5
   rw [if_pos rfl] at H
   obtain ⟨ji6, hji6⟩ : ∃ j_ : Int, (wrap64 (16 - a0_1)) = j_ := ⟨_, rfl⟩
   replace H : (if 0 ≤ (ji6) then (if (shl .i64 1 (ji6)) = 0 then (none) else (if (Int.tmod a0_0 (shl .i64 1 (ji6))) = 0 then ((impl_word.f a0_2).bind fun t249 => (if t249 = true then ((impl_in.f a0_3 1 48).bind fun t250 => (some t250)) else (some false))) else (some false))) else (none)) = some r := by first | (rw [hji6] at H; exact H) | (simp only [hji6] at H ⊢; exact H)
   (try rw [hji6] at A2)
   (try rw [hji6] at A4)
   have hji6w : (IntKind.i64.wrap (16 - a0_1)) = ji6 := (i64_w _).trans hji6
   by_cases c7 : 0 ≤ (ji6)
   rotate_left
   ·rw [if_neg c7] at H
    exact absurd H (by simp)
   rw [if_pos c7] at H
   have c7b0 := eq_true c7
   have c7b1 : decide (0 ≤ (ji6)) = true := decide_eq_true c7
   clear c7
   obtain ⟨ji8, hji8⟩ : ∃ j_ : Int, (shl .i64 1 (ji6)) = j_ := ⟨_, rfl⟩
   replace H : (if (ji8) = 0 then (none) else (if (Int.tmod a0_0 (ji8)) = 0 then ((impl_word.f a0_2).bind fun t249 => (if t249 = true then ((impl_in.f a0_3 1 48).bind fun t250 => (some t250)) else (some false))) else (some false))) = some r := by first | (rw [hji8] at H; exact H) | (simp only [hji8] at H ⊢; exact H)
   (try rw [hji8] at A2)
   (try rw [hji8] at A4)
   have hji8_ : (IntKind.i64.wrap (1 * 2 ^ min (ji6).toNat 64)) = ji8 := hji8
   have hji8z : (ji6) ≤ 64 → (IntKind.i64.wrap (1 * 2 ^ (ji6).toNat)) = ji8 := shl_small hji8
   have hji8u : (IntKind.i64.wrap (2 ^ min (ji6).toNat 64)) = ji8 := by have h_ := hji8_; rw [Int.one_mul] at h_; exact h_
   have hji8v : (ji6) ≤ 64 → (IntKind.i64.wrap (2 ^ (ji6).toNat)) = ji8 := fun hle_ => by have h_ := hji8z hle_; rw [Int.one_mul] at h_; exact h_
   have hji8y : (wrap64 (1 * 2 ^ min (ji6).toNat 64)) = ji8 := (i64_w _).symm.trans hji8_
   have hji8x : (ji6) ≤ 64 → (wrap64 (1 * 2 ^ (ji6).toNat)) = ji8 := fun h_ => (i64_w _).symm.trans (hji8z h_)
   by_cases c9 : (ji8) = 0
   ·rw [if_pos c9] at H
    exact absurd H (by simp)
   rw [if_neg c9] at H
   have c9b0 : ((ji8) == 0) = false := beq_eq_false_iff_ne.mpr c9
   have c9b1 : ((ji8) != 0) = true := bne_iff_ne.mpr c9
   by_cases c10 : (Int.tmod a0_0 (ji8)) = 0
   rotate_left
   focus
    rw [if_neg c10] at H
    have c10b0 : ((Int.tmod a0_0 (ji8)) == 0) = false := beq_eq_false_iff_ne.mpr c10
    have c10b1 : ((Int.tmod a0_0 (ji8)) != 0) = true := bne_iff_ne.mpr c10
    obtain rfl := Option.some.inj H
   rotate_left
   focus
    rw [if_pos c10] at H
    have c10b0 : ((Int.tmod a0_0 (ji8)) == 0) = true := beq_iff_eq.mpr c10
    have c10b1 : ((Int.tmod a0_0 (ji8)) != 0) = false := bne_eq_false_iff_eq.mpr c10
    clear c10
    replace H := Option.bind_eq_some_iff.mp H
    obtain ⟨t249, A110, H⟩ := H
    (try dsimp only at H)
    have A11 := mk_ A110
    clear A110
    by_cases c12 : t249 = true
    rotate_left
    focus
     replace c12 := Bool.eq_false_iff.mpr c12
     subst c12
     have H1 : (some false) = some r := by rw [if_neg (show ¬ (false = true) by decide)] at H; exact H
     clear H
     have H := H1
     clear H1
     obtain rfl := Option.some.inj H
    rotate_left
    focus
     subst c12
     rw [if_pos rfl] at H
     replace H := Option.bind_eq_some_iff.mp H
     obtain ⟨t250, A130, H⟩ := H
     replace H : (some t250) = some r := H
     have A13 := mk_ A130
     clear A130
     obtain rfl := Option.some.inj H
    rotate_left
   rotate_left 2
  rotate_left 3
 rotate_left 4
 all_goals
  go_enter Try.func85, Try.ntmps85
  go_wp2_with (first | ((with_reducible refine gate_dst (N := 1) rfl ?_); refine box_event ?hg (N := 1) ?hd (cs := #[.int .i64 a0_0, .int .i64 a0_1, .int .i64 a0_2, .int .i64 a0_3]) (t := 29) ?hr ?_; (case hd => rfl); (case hg => rfl); (case hr => first | (go_simp; done) | (go_simp; rfl)); intro gb8200 hg w8201 hbox hb; have n0_ := mk_ (below_step (ub_ HB.out) hb); have BK246 := mk_ (hbox); have GW246 := mk_ ((by rw [hg]; exact (below_size (ub_ HB.out)) : w.heap.size ≤ gb8200)); have GE246 := ge_ ((by rw [hg]; exact (below_size (ub_ HB.out)) : w.heap.size ≤ gb8200)); replace HB := n0_; clear n0_; clear hb hbox hg; obtain ⟨hcz1800246_0, hcz1800246_1, hcz1800246_2, hcz1800246_3, hfz1800246_0, hfz1800246_1, hfz1800246_2, hfz1800246_3⟩ := cells4_ BK246.out) | (go_at_call 48; (with_reducible refine (impl_in.calls a0_1 0 16 false _ A2.out).mono ?_); rintro e w' ⟨rfl, ⟨nd, rfl⟩⟩; (try first | exact ⟨rfl, _, World.drewN_drewN _ _ _⟩ | exact ⟨rfl, _, Eq.trans (World.drewN_drewN _ _ _) (congrArg (World.drewN _) (Nat.add_assoc _ _ _))⟩)) | (go_at_call 48; have hA_ := A2.out; (with_reducible refine (impl_in.calls a0_1 0 16 true _ A2.out).mono ?_); rintro e w' ⟨rfl, ⟨nd, rfl⟩⟩; (try first | exact ⟨rfl, _, World.drewN_drewN _ _ _⟩ | exact ⟨rfl, _, Eq.trans (World.drewN_drewN _ _ _) (congrArg (World.drewN _) (Nat.add_assoc _ _ _))⟩); clear hA_ A2) | (go_at_call 49; (with_reducible refine (impl_word.calls a0_0 false _ A4.out).mono ?_); rintro e w' ⟨rfl, ⟨nd, rfl⟩⟩; (try first | exact ⟨rfl, _, World.drewN_drewN _ _ _⟩ | exact ⟨rfl, _, Eq.trans (World.drewN_drewN _ _ _) (congrArg (World.drewN _) (Nat.add_assoc _ _ _))⟩)) | (go_at_call 49; have hA_ := A4.out; (with_reducible refine (impl_word.calls a0_0 true _ A4.out).mono ?_); rintro e w' ⟨rfl, ⟨nd, rfl⟩⟩; (try first | exact ⟨rfl, _, World.drewN_drewN _ _ _⟩ | exact ⟨rfl, _, Eq.trans (World.drewN_drewN _ _ _) (congrArg (World.drewN _) (Nat.add_assoc _ _ _))⟩); clear hA_ A4) | (go_at_call 49; have hA_ := A11.out; (with_reducible refine (impl_word.calls a0_2 false _ A11.out).mono ?_); rintro e w' ⟨rfl, ⟨nd, rfl⟩⟩; (try first | exact ⟨rfl, _, World.drewN_drewN _ _ _⟩ | exact ⟨rfl, _, Eq.trans (World.drewN_drewN _ _ _) (congrArg (World.drewN _) (Nat.add_assoc _ _ _))⟩); clear hA_ A11) | (go_at_call 49; have hA_ := A11.out; (with_reducible refine (impl_word.calls a0_2 true _ A11.out).mono ?_); rintro e w' ⟨rfl, ⟨nd, rfl⟩⟩; (try first | exact ⟨rfl, _, World.drewN_drewN _ _ _⟩ | exact ⟨rfl, _, Eq.trans (World.drewN_drewN _ _ _) (congrArg (World.drewN _) (Nat.add_assoc _ _ _))⟩); clear hA_ A11) | (go_at_call 48; have hA_ := A13.out; (with_reducible refine (impl_in.calls a0_3 1 48 t250 _ A13.out).mono ?_); rintro e w' ⟨rfl, ⟨nd, rfl⟩⟩; (try first | exact ⟨rfl, _, World.drewN_drewN _ _ _⟩ | exact ⟨rfl, _, Eq.trans (World.drewN_drewN _ _ _) (congrArg (World.drewN _) (Nat.add_assoc _ _ _))⟩); clear hA_ A13))
 ·repeat (go_quiet (first | ((with_reducible refine gate_dst (N := 1) rfl ?_); refine box_event ?hg (N := 1) ?hd (cs := #[.int .i64 a0_0, .int .i64 a0_1, .int .i64 a0_2, .int .i64 a0_3]) (t := 29) ?hr ?_; (case hd => rfl); (case hg => rfl); (case hr => first | (go_simp; done) | (go_simp; rfl)); intro gb8200 hg w8201 hbox hb; have n0_ := mk_ (below_step (ub_ HB.out) hb); have BK246 := mk_ (hbox); have GW246 := mk_ ((by rw [hg]; exact (below_size (ub_ HB.out)) : w.heap.size ≤ gb8200)); have GE246 := ge_ ((by rw [hg]; exact (below_size (ub_ HB.out)) : w.heap.size ≤ gb8200)); replace HB := n0_; clear n0_; clear hb hbox hg; obtain ⟨hcz1800246_0, hcz1800246_1, hcz1800246_2, hcz1800246_3, hfz1800246_0, hfz1800246_1, hfz1800246_2, hfz1800246_3⟩ := cells4_ BK246.out) | (go_at_call 48; (with_reducible refine (impl_in.calls a0_1 0 16 false _ A2.out).mono ?_); rintro e w' ⟨rfl, ⟨nd, rfl⟩⟩; (try first | exact ⟨rfl, _, World.drewN_drewN _ _ _⟩ | exact ⟨rfl, _, Eq.trans (World.drewN_drewN _ _ _) (congrArg (World.drewN _) (Nat.add_assoc _ _ _))⟩))); try go_wp2_with (first | ((with_reducible refine gate_dst (N := 1) rfl ?_); refine box_event ?hg (N := 1) ?hd (cs := #[.int .i64 a0_0, .int .i64 a0_1, .int .i64 a0_2, .int .i64 a0_3]) (t := 29) ?hr ?_; (case hd => rfl); (case hg => rfl); (case hr => first | (go_simp; done) | (go_simp; rfl)); intro gb8200 hg w8201 hbox hb; have n0_ := mk_ (below_step (ub_ HB.out) hb); have BK246 := mk_ (hbox); have GW246 := mk_ ((by rw [hg]; exact (below_size (ub_ HB.out)) : w.heap.size ≤ gb8200)); have GE246 := ge_ ((by rw [hg]; exact (below_size (ub_ HB.out)) : w.heap.size ≤ gb8200)); replace HB := n0_; clear n0_; clear hb hbox hg; obtain ⟨hcz1800246_0, hcz1800246_1, hcz1800246_2, hcz1800246_3, hfz1800246_0, hfz1800246_1, hfz1800246_2, hfz1800246_3⟩ := cells4_ BK246.out) | (go_at_call 48; (with_reducible refine (impl_in.calls a0_1 0 16 false _ A2.out).mono ?_); rintro e w' ⟨rfl, ⟨nd, rfl⟩⟩; (try first | exact ⟨rfl, _, World.drewN_drewN _ _ _⟩ | exact ⟨rfl, _, Eq.trans (World.drewN_drewN _ _ _) (congrArg (World.drewN _) (Nat.add_assoc _ _ _))⟩))))
  go_ret
  exact ⟨by first | rfl | (simp [errW_none, errW_some] <;> rfl) | (simp [*, errW_none, errW_some] <;> rfl), us_ HB.out⟩
 ·repeat (go_quiet (first | ((with_reducible refine gate_dst (N := 1) rfl ?_); refine box_event ?hg (N := 1) ?hd (cs := #[.int .i64 a0_0, .int .i64 a0_1, .int .i64 a0_2, .int .i64 a0_3]) (t := 29) ?hr ?_; (case hd => rfl); (case hg => rfl); (case hr => first | (go_simp; done) | (go_simp; rfl)); intro gb8200 hg w8201 hbox hb; have n0_ := mk_ (below_step (ub_ HB.out) hb); have BK246 := mk_ (hbox); have GW246 := mk_ ((by rw [hg]; exact (below_size (ub_ HB.out)) : w.heap.size ≤ gb8200)); have GE246 := ge_ ((by rw [hg]; exact (below_size (ub_ HB.out)) : w.heap.size ≤ gb8200)); replace HB := n0_; clear n0_; clear hb hbox hg; obtain ⟨hcz1800246_0, hcz1800246_1, hcz1800246_2, hcz1800246_3, hfz1800246_0, hfz1800246_1, hfz1800246_2, hfz1800246_3⟩ := cells4_ BK246.out) | (go_at_call 48; (with_reducible refine (impl_in.calls a0_1 0 16 true _ A2.out).mono ?_); rintro e w' ⟨rfl, ⟨nd, rfl⟩⟩; (try first | exact ⟨rfl, _, World.drewN_drewN _ _ _⟩ | exact ⟨rfl, _, Eq.trans (World.drewN_drewN _ _ _) (congrArg (World.drewN _) (Nat.add_assoc _ _ _))⟩)) | (go_at_call 49; (with_reducible refine (impl_word.calls a0_0 false _ A4.out).mono ?_); rintro e w' ⟨rfl, ⟨nd, rfl⟩⟩; (try first | exact ⟨rfl, _, World.drewN_drewN _ _ _⟩ | exact ⟨rfl, _, Eq.trans (World.drewN_drewN _ _ _) (congrArg (World.drewN _) (Nat.add_assoc _ _ _))⟩))); try go_wp2_with (first | ((with_reducible refine gate_dst (N := 1) rfl ?_); refine box_event ?hg (N := 1) ?hd (cs := #[.int .i64 a0_0, .int .i64 a0_1, .int .i64 a0_2, .int .i64 a0_3]) (t := 29) ?hr ?_; (case hd => rfl); (case hg => rfl); (case hr => first | (go_simp; done) | (go_simp; rfl)); intro gb8200 hg w8201 hbox hb; have n0_ := mk_ (below_step (ub_ HB.out) hb); have BK246 := mk_ (hbox); have GW246 := mk_ ((by rw [hg]; exact (below_size (ub_ HB.out)) : w.heap.size ≤ gb8200)); have GE246 := ge_ ((by rw [hg]; exact (below_size (ub_ HB.out)) : w.heap.size ≤ gb8200)); replace HB := n0_; clear n0_; clear hb hbox hg; obtain ⟨hcz1800246_0, hcz1800246_1, hcz1800246_2, hcz1800246_3, hfz1800246_0, hfz1800246_1, hfz1800246_2, hfz1800246_3⟩ := cells4_ BK246.out) | (go_at_call 48; (with_reducible refine (impl_in.calls a0_1 0 16 true _ A2.out).mono ?_); rintro e w' ⟨rfl, ⟨nd, rfl⟩⟩; (try first | exact ⟨rfl, _, World.drewN_drewN _ _ _⟩ | exact ⟨rfl, _, Eq.trans (World.drewN_drewN _ _ _) (congrArg (World.drewN _) (Nat.add_assoc _ _ _))⟩)) | (go_at_call 49; (with_reducible refine (impl_word.calls a0_0 false _ A4.out).mono ?_); rintro e w' ⟨rfl, ⟨nd, rfl⟩⟩; (try first | exact ⟨rfl, _, World.drewN_drewN _ _ _⟩ | exact ⟨rfl, _, Eq.trans (World.drewN_drewN _ _ _) (congrArg (World.drewN _) (Nat.add_assoc _ _ _))⟩))))
  go_ret
  exact ⟨by first | rfl | (simp [errW_none, errW_some] <;> rfl) | (simp [*, errW_none, errW_some] <;> rfl), us_ HB.out⟩
 ·repeat (go_quiet (first | ((with_reducible refine gate_dst (N := 1) rfl ?_); refine box_event ?hg (N := 1) ?hd (cs := #[.int .i64 a0_0, .int .i64 a0_1, .int .i64 a0_2, .int .i64 a0_3]) (t := 29) ?hr ?_; (case hd => rfl); (case hg => rfl); (case hr => first | (go_simp; done) | (go_simp; rfl)); intro gb8200 hg w8201 hbox hb; have n0_ := mk_ (below_step (ub_ HB.out) hb); have BK246 := mk_ (hbox); have GW246 := mk_ ((by rw [hg]; exact (below_size (ub_ HB.out)) : w.heap.size ≤ gb8200)); have GE246 := ge_ ((by rw [hg]; exact (below_size (ub_ HB.out)) : w.heap.size ≤ gb8200)); replace HB := n0_; clear n0_; clear hb hbox hg; obtain ⟨hcz1800246_0, hcz1800246_1, hcz1800246_2, hcz1800246_3, hfz1800246_0, hfz1800246_1, hfz1800246_2, hfz1800246_3⟩ := cells4_ BK246.out) | (go_at_call 48; (with_reducible refine (impl_in.calls a0_1 0 16 true _ A2.out).mono ?_); rintro e w' ⟨rfl, ⟨nd, rfl⟩⟩; (try first | exact ⟨rfl, _, World.drewN_drewN _ _ _⟩ | exact ⟨rfl, _, Eq.trans (World.drewN_drewN _ _ _) (congrArg (World.drewN _) (Nat.add_assoc _ _ _))⟩)) | (go_at_call 49; (with_reducible refine (impl_word.calls a0_0 true _ A4.out).mono ?_); rintro e w' ⟨rfl, ⟨nd, rfl⟩⟩; (try first | exact ⟨rfl, _, World.drewN_drewN _ _ _⟩ | exact ⟨rfl, _, Eq.trans (World.drewN_drewN _ _ _) (congrArg (World.drewN _) (Nat.add_assoc _ _ _))⟩))); try go_wp2_with (first | ((with_reducible refine gate_dst (N := 1) rfl ?_); refine box_event ?hg (N := 1) ?hd (cs := #[.int .i64 a0_0, .int .i64 a0_1, .int .i64 a0_2, .int .i64 a0_3]) (t := 29) ?hr ?_; (case hd => rfl); (case hg => rfl); (case hr => first | (go_simp; done) | (go_simp; rfl)); intro gb8200 hg w8201 hbox hb; have n0_ := mk_ (below_step (ub_ HB.out) hb); have BK246 := mk_ (hbox); have GW246 := mk_ ((by rw [hg]; exact (below_size (ub_ HB.out)) : w.heap.size ≤ gb8200)); have GE246 := ge_ ((by rw [hg]; exact (below_size (ub_ HB.out)) : w.heap.size ≤ gb8200)); replace HB := n0_; clear n0_; clear hb hbox hg; obtain ⟨hcz1800246_0, hcz1800246_1, hcz1800246_2, hcz1800246_3, hfz1800246_0, hfz1800246_1, hfz1800246_2, hfz1800246_3⟩ := cells4_ BK246.out) | (go_at_call 48; (with_reducible refine (impl_in.calls a0_1 0 16 true _ A2.out).mono ?_); rintro e w' ⟨rfl, ⟨nd, rfl⟩⟩; (try first | exact ⟨rfl, _, World.drewN_drewN _ _ _⟩ | exact ⟨rfl, _, Eq.trans (World.drewN_drewN _ _ _) (congrArg (World.drewN _) (Nat.add_assoc _ _ _))⟩)) | (go_at_call 49; (with_reducible refine (impl_word.calls a0_0 true _ A4.out).mono ?_); rintro e w' ⟨rfl, ⟨nd, rfl⟩⟩; (try first | exact ⟨rfl, _, World.drewN_drewN _ _ _⟩ | exact ⟨rfl, _, Eq.trans (World.drewN_drewN _ _ _) (congrArg (World.drewN _) (Nat.add_assoc _ _ _))⟩))))
  go_ret
  exact ⟨by first | rfl | (simp [errW_none, errW_some] <;> rfl) | (simp only [← hji6, ← hji8]; first | rfl | (simp [errW_none, errW_some] <;> rfl)) | (simp [*, errW_none, errW_some] <;> rfl), us_ HB.out⟩
 ·repeat (go_quiet (first | ((with_reducible refine gate_dst (N := 1) rfl ?_); refine box_event ?hg (N := 1) ?hd (cs := #[.int .i64 a0_0, .int .i64 a0_1, .int .i64 a0_2, .int .i64 a0_3]) (t := 29) ?hr ?_; (case hd => rfl); (case hg => rfl); (case hr => first | (go_simp; done) | (go_simp; rfl)); intro gb8200 hg w8201 hbox hb; have n0_ := mk_ (below_step (ub_ HB.out) hb); have BK246 := mk_ (hbox); have GW246 := mk_ ((by rw [hg]; exact (below_size (ub_ HB.out)) : w.heap.size ≤ gb8200)); have GE246 := ge_ ((by rw [hg]; exact (below_size (ub_ HB.out)) : w.heap.size ≤ gb8200)); replace HB := n0_; clear n0_; clear hb hbox hg; obtain ⟨hcz1800246_0, hcz1800246_1, hcz1800246_2, hcz1800246_3, hfz1800246_0, hfz1800246_1, hfz1800246_2, hfz1800246_3⟩ := cells4_ BK246.out) | (go_at_call 48; (with_reducible refine (impl_in.calls a0_1 0 16 true _ A2.out).mono ?_); rintro e w' ⟨rfl, ⟨nd, rfl⟩⟩; (try first | exact ⟨rfl, _, World.drewN_drewN _ _ _⟩ | exact ⟨rfl, _, Eq.trans (World.drewN_drewN _ _ _) (congrArg (World.drewN _) (Nat.add_assoc _ _ _))⟩)) | (go_at_call 49; (with_reducible refine (impl_word.calls a0_0 true _ A4.out).mono ?_); rintro e w' ⟨rfl, ⟨nd, rfl⟩⟩; (try first | exact ⟨rfl, _, World.drewN_drewN _ _ _⟩ | exact ⟨rfl, _, Eq.trans (World.drewN_drewN _ _ _) (congrArg (World.drewN _) (Nat.add_assoc _ _ _))⟩)) | (go_at_call 49; (with_reducible refine (impl_word.calls a0_2 false _ A11.out).mono ?_); rintro e w' ⟨rfl, ⟨nd, rfl⟩⟩; (try first | exact ⟨rfl, _, World.drewN_drewN _ _ _⟩ | exact ⟨rfl, _, Eq.trans (World.drewN_drewN _ _ _) (congrArg (World.drewN _) (Nat.add_assoc _ _ _))⟩))); try go_wp2_with (first | ((with_reducible refine gate_dst (N := 1) rfl ?_); refine box_event ?hg (N := 1) ?hd (cs := #[.int .i64 a0_0, .int .i64 a0_1, .int .i64 a0_2, .int .i64 a0_3]) (t := 29) ?hr ?_; (case hd => rfl); (case hg => rfl); (case hr => first | (go_simp; done) | (go_simp; rfl)); intro gb8200 hg w8201 hbox hb; have n0_ := mk_ (below_step (ub_ HB.out) hb); have BK246 := mk_ (hbox); have GW246 := mk_ ((by rw [hg]; exact (below_size (ub_ HB.out)) : w.heap.size ≤ gb8200)); have GE246 := ge_ ((by rw [hg]; exact (below_size (ub_ HB.out)) : w.heap.size ≤ gb8200)); replace HB := n0_; clear n0_; clear hb hbox hg; obtain ⟨hcz1800246_0, hcz1800246_1, hcz1800246_2, hcz1800246_3, hfz1800246_0, hfz1800246_1, hfz1800246_2, hfz1800246_3⟩ := cells4_ BK246.out) | (go_at_call 48; (with_reducible refine (impl_in.calls a0_1 0 16 true _ A2.out).mono ?_); rintro e w' ⟨rfl, ⟨nd, rfl⟩⟩; (try first | exact ⟨rfl, _, World.drewN_drewN _ _ _⟩ | exact ⟨rfl, _, Eq.trans (World.drewN_drewN _ _ _) (congrArg (World.drewN _) (Nat.add_assoc _ _ _))⟩)) | (go_at_call 49; (with_reducible refine (impl_word.calls a0_0 true _ A4.out).mono ?_); rintro e w' ⟨rfl, ⟨nd, rfl⟩⟩; (try first | exact ⟨rfl, _, World.drewN_drewN _ _ _⟩ | exact ⟨rfl, _, Eq.trans (World.drewN_drewN _ _ _) (congrArg (World.drewN _) (Nat.add_assoc _ _ _))⟩)) | (go_at_call 49; (with_reducible refine (impl_word.calls a0_2 false _ A11.out).mono ?_); rintro e w' ⟨rfl, ⟨nd, rfl⟩⟩; (try first | exact ⟨rfl, _, World.drewN_drewN _ _ _⟩ | exact ⟨rfl, _, Eq.trans (World.drewN_drewN _ _ _) (congrArg (World.drewN _) (Nat.add_assoc _ _ _))⟩))))
  go_ret
  exact ⟨by first | rfl | (simp [errW_none, errW_some] <;> rfl) | (simp only [← hji6, ← hji8]; first | rfl | (simp [errW_none, errW_some] <;> rfl)) | (simp [*, errW_none, errW_some] <;> rfl), us_ HB.out⟩
 ·repeat (go_quiet (first | ((with_reducible refine gate_dst (N := 1) rfl ?_); refine box_event ?hg (N := 1) ?hd (cs := #[.int .i64 a0_0, .int .i64 a0_1, .int .i64 a0_2, .int .i64 a0_3]) (t := 29) ?hr ?_; (case hd => rfl); (case hg => rfl); (case hr => first | (go_simp; done) | (go_simp; rfl)); intro gb8200 hg w8201 hbox hb; have n0_ := mk_ (below_step (ub_ HB.out) hb); have BK246 := mk_ (hbox); have GW246 := mk_ ((by rw [hg]; exact (below_size (ub_ HB.out)) : w.heap.size ≤ gb8200)); have GE246 := ge_ ((by rw [hg]; exact (below_size (ub_ HB.out)) : w.heap.size ≤ gb8200)); replace HB := n0_; clear n0_; clear hb hbox hg; obtain ⟨hcz1800246_0, hcz1800246_1, hcz1800246_2, hcz1800246_3, hfz1800246_0, hfz1800246_1, hfz1800246_2, hfz1800246_3⟩ := cells4_ BK246.out) | (go_at_call 48; (with_reducible refine (impl_in.calls a0_1 0 16 true _ A2.out).mono ?_); rintro e w' ⟨rfl, ⟨nd, rfl⟩⟩; (try first | exact ⟨rfl, _, World.drewN_drewN _ _ _⟩ | exact ⟨rfl, _, Eq.trans (World.drewN_drewN _ _ _) (congrArg (World.drewN _) (Nat.add_assoc _ _ _))⟩)) | (go_at_call 49; (with_reducible refine (impl_word.calls a0_0 true _ A4.out).mono ?_); rintro e w' ⟨rfl, ⟨nd, rfl⟩⟩; (try first | exact ⟨rfl, _, World.drewN_drewN _ _ _⟩ | exact ⟨rfl, _, Eq.trans (World.drewN_drewN _ _ _) (congrArg (World.drewN _) (Nat.add_assoc _ _ _))⟩)) | (go_at_call 49; (with_reducible refine (impl_word.calls a0_2 true _ A11.out).mono ?_); rintro e w' ⟨rfl, ⟨nd, rfl⟩⟩; (try first | exact ⟨rfl, _, World.drewN_drewN _ _ _⟩ | exact ⟨rfl, _, Eq.trans (World.drewN_drewN _ _ _) (congrArg (World.drewN _) (Nat.add_assoc _ _ _))⟩)) | (go_at_call 48; (with_reducible refine (impl_in.calls a0_3 1 48 t250 _ A13.out).mono ?_); rintro e w' ⟨rfl, ⟨nd, rfl⟩⟩; (try first | exact ⟨rfl, _, World.drewN_drewN _ _ _⟩ | exact ⟨rfl, _, Eq.trans (World.drewN_drewN _ _ _) (congrArg (World.drewN _) (Nat.add_assoc _ _ _))⟩))); try go_wp2_with (first | ((with_reducible refine gate_dst (N := 1) rfl ?_); refine box_event ?hg (N := 1) ?hd (cs := #[.int .i64 a0_0, .int .i64 a0_1, .int .i64 a0_2, .int .i64 a0_3]) (t := 29) ?hr ?_; (case hd => rfl); (case hg => rfl); (case hr => first | (go_simp; done) | (go_simp; rfl)); intro gb8200 hg w8201 hbox hb; have n0_ := mk_ (below_step (ub_ HB.out) hb); have BK246 := mk_ (hbox); have GW246 := mk_ ((by rw [hg]; exact (below_size (ub_ HB.out)) : w.heap.size ≤ gb8200)); have GE246 := ge_ ((by rw [hg]; exact (below_size (ub_ HB.out)) : w.heap.size ≤ gb8200)); replace HB := n0_; clear n0_; clear hb hbox hg; obtain ⟨hcz1800246_0, hcz1800246_1, hcz1800246_2, hcz1800246_3, hfz1800246_0, hfz1800246_1, hfz1800246_2, hfz1800246_3⟩ := cells4_ BK246.out) | (go_at_call 48; (with_reducible refine (impl_in.calls a0_1 0 16 true _ A2.out).mono ?_); rintro e w' ⟨rfl, ⟨nd, rfl⟩⟩; (try first | exact ⟨rfl, _, World.drewN_drewN _ _ _⟩ | exact ⟨rfl, _, Eq.trans (World.drewN_drewN _ _ _) (congrArg (World.drewN _) (Nat.add_assoc _ _ _))⟩)) | (go_at_call 49; (with_reducible refine (impl_word.calls a0_0 true _ A4.out).mono ?_); rintro e w' ⟨rfl, ⟨nd, rfl⟩⟩; (try first | exact ⟨rfl, _, World.drewN_drewN _ _ _⟩ | exact ⟨rfl, _, Eq.trans (World.drewN_drewN _ _ _) (congrArg (World.drewN _) (Nat.add_assoc _ _ _))⟩)) | (go_at_call 49; (with_reducible refine (impl_word.calls a0_2 true _ A11.out).mono ?_); rintro e w' ⟨rfl, ⟨nd, rfl⟩⟩; (try first | exact ⟨rfl, _, World.drewN_drewN _ _ _⟩ | exact ⟨rfl, _, Eq.trans (World.drewN_drewN _ _ _) (congrArg (World.drewN _) (Nat.add_assoc _ _ _))⟩)) | (go_at_call 48; (with_reducible refine (impl_in.calls a0_3 1 48 t250 _ A13.out).mono ?_); rintro e w' ⟨rfl, ⟨nd, rfl⟩⟩; (try first | exact ⟨rfl, _, World.drewN_drewN _ _ _⟩ | exact ⟨rfl, _, Eq.trans (World.drewN_drewN _ _ _) (congrArg (World.drewN _) (Nat.add_assoc _ _ _))⟩))))
  go_ret
  exact ⟨by first | rfl | (simp [errW_none, errW_some] <;> rfl) | (simp only [← hji6, ← hji8]; first | rfl | (simp [errW_none, errW_some] <;> rfl)) | (simp [*, errW_none, errW_some] <;> rfl), us_ HB.out⟩

/-! ### cmp_Or_int: function 118 -/
def cmp_Or_int.l0 : Nat → Int → List Int → Int → Int → Option (Int)
 | 0, _, _, _, _ => none
 | k + 1, x3, x6, x7, x8 => if x8 < x7 then (if 0 ≤ x8 then (if x8 < (x6.length : Int) then (if (rd x6 x8) = x3 then (cmp_Or_int.l0 k x3 x6 x7 (wrap64 (x8 + 1))) else (some (rd x6 x8))) else (none)) else (none)) else (some x3)
def cmp_Or_int.f (k : Nat) (l0 : List Int) : Option (Int) := cmp_Or_int.l0 k 0 l0 (l0.length : Int) 0
theorem cmp_Or_int.mono_l : ∀ k, (∀ y0 y1 y2 y3, LeO (cmp_Or_int.l0 k y0 y1 y2 y3) (cmp_Or_int.l0 (k + 1) y0 y1 y2 y3))
 | 0 => fun _ _ _ _ r h => by simp [cmp_Or_int.l0] at h
 | k + 1 => by
  have ih0 := cmp_Or_int.mono_l k
  ·intro y0 y1 y2 y3
   unfold cmp_Or_int.l0
   repeat' first
   | (with_reducible exact ih0 _ _ _ _)
   | (with_reducible exact LeO.refl _)
   | (with_reducible exact LeO.none _)
   | (with_reducible refine LeO.ite ?_ ?_)
   | (with_reducible refine LeO.bind ?_ (fun _ => ?_))
   | exact ih0 _ _ _ _
   | exact LeO.none _
   | refine LeO.ite ?_ ?_
   | refine LeO.bind ?_ (fun _ => ?_)
theorem cmp_Or_int.mono : ∀ a0 k, LeO (cmp_Or_int.f k a0) (cmp_Or_int.f (k + 1) a0) := by
 intro a0 k
 have ih0 := cmp_Or_int.mono_l k
 unfold cmp_Or_int.f
 repeat' first
   | (with_reducible exact ih0 _ _ _ _)
   | (with_reducible exact LeO.refl _)
   | (with_reducible exact LeO.none _)
   | (with_reducible refine LeO.ite ?_ ?_)
   | (with_reducible refine LeO.bind ?_ (fun _ => ?_))
   | exact ih0 _ _ _ _
   | exact LeO.none _
   | refine LeO.ite ?_ ?_
   | refine LeO.bind ?_ (fun _ => ?_)
set_option maxHeartbeats 8000000 in
set_option maxRecDepth 100000 in
theorem cmp_Or_int.calls (k : Nat) (A0 : Option Addr) (c0 : Nat) (l0 : List Int) (r : Int) (w : World) (hr0 : Kd.C (Kd.int .i64) w A0 l0.length l0) (hc0 : l0.length ≤ c0) (h : cmp_Or_int.f k l0 = some r) :
  Calls Try.prog 118 #[.slice A0 l0.length c0] w fun e w' => e = .returned (.int .i64 r) ∧ Drawn0 w w' := by
 have HR0 := mk_ hr0
 have HC0 := mk_ hc0
 clear hr0 hc0
 have H : (cmp_Or_int.l0 k 0 l0 (l0.length : Int) 0) = some r := h
 clear h
 have H' := mk_ H
 clear H
 go_enter Try.func118, Try.ntmps118
 go_wp2
 go_loopg [8] k (fun kq v8 w' => ∃ (x8_1 : Int), v8 = .int .i64 x8_1 ∧ Aside0 (cmp_Or_int.l0 kq 0 l0 (l0.length : Int) x8_1 = some r) ∧ Aside0 (kq ≤ k) ∧ Drawn0 w w')
 case atStart => exact ⟨(0), (by first | rfl | (simp; done) | (simp [*]; done)), H', ⟨Nat.le_refl _⟩, by repeat (first | exact Drawn0.refl _ | apply Drawn0.step)⟩
 case round =>
  clear H'
  try clear c1
  obtain ⟨x8_1, rfl, HA, HK1, ⟨m1, rfl⟩⟩ := hrel
  cases gk with
  | zero => exact absurd HA.out (by simp [cmp_Or_int.l0])
  | succ k1 =>
   have H := HA.out
   clear HA
   simp only [cmp_Or_int.l0] at H
   by_cases c2 : x8_1 < (l0.length : Int)
   rotate_left
   ·rw [if_neg c2] at H
    have c2b0 : decide (x8_1 < (l0.length : Int)) = false := decide_eq_false c2
    clear c2
    obtain rfl := Option.some.inj H
    go_wp2
    go_ret
    exact ⟨by first | rfl | (simp; done) | (simp [*]; done), by repeat (first | exact Drawn0.refl _ | apply Drawn0.step)⟩
   rw [if_pos c2] at H
   have c2b0 : decide (x8_1 < (l0.length : Int)) = true := decide_eq_true c2
   clear c2
   by_cases c3 : 0 ≤ x8_1
   rotate_left
   ·rw [if_neg c3] at H
    exact absurd H (by simp)
   rw [if_pos c3] at H
   have c3b0 : decide (0 ≤ x8_1) = true := decide_eq_true c3
   clear c3
   by_cases c4 : x8_1 < (l0.length : Int)
   rotate_left
   ·rw [if_neg c4] at H
    exact absurd H (by simp)
   rw [if_pos c4] at H
   have c4b0 : decide (x8_1 < (l0.length : Int)) = true := decide_eq_true c4
   clear c4
   by_cases c5 : (rd l0 x8_1) = 0
   rotate_left
   ·rw [if_neg c5] at H
    have c5b0 : ((rd l0 x8_1) == 0) = false := beq_eq_false_iff_ne.mpr c5
    have c5b1 : ((rd l0 x8_1) != 0) = true := bne_iff_ne.mpr c5
    obtain rfl := Option.some.inj H
    have p251 : 0 ≤ (x8_1 : Int) := of_decide_eq_true (by first | (with_reducible assumption) | assumption)
    have q251 : x8_1 < (l0.length : Int) := of_decide_eq_true (by first | (with_reducible assumption) | assumption)
    obtain ⟨ad251, e251, hx251_0⟩ := Kd.at_int HR0.out x8_1 p251 q251
    cases e251
    replace p251 := eq_true p251
    replace q251 := eq_true q251
    go_wp2
    go_ret
    exact ⟨by first | rfl | (simp; done) | (simp [*]; done), by repeat (first | exact Drawn0.refl _ | apply Drawn0.step)⟩
   rw [if_pos c5] at H
   have c5b0 : ((rd l0 x8_1) == 0) = true := beq_iff_eq.mpr c5
   have c5b1 : ((rd l0 x8_1) != 0) = false := bne_eq_false_iff_eq.mpr c5
   clear c5
   have H' := mk_ H
   clear H
   have p251 : 0 ≤ (x8_1 : Int) := of_decide_eq_true (by first | (with_reducible assumption) | assumption)
   have q251 : x8_1 < (l0.length : Int) := of_decide_eq_true (by first | (with_reducible assumption) | assumption)
   obtain ⟨ad251, e251, hx251_0⟩ := Kd.at_int HR0.out x8_1 p251 q251
   cases e251
   replace p251 := eq_true p251
   replace q251 := eq_true q251
   go_wp2
   go_roundg k1
   case measure => have := HK1.out; omega
   case rel => exact ⟨(wrap64 (x8_1 + 1)), (by first | rfl | (simp; done) | (simp [*]; done)), H', ⟨by have := HK1.out; omega⟩, by repeat (first | exact Drawn0.refl _ | apply Drawn0.step)⟩

/-! ### cmp_isNaN_int: function 134 -/
def cmp_isNaN_int.f (a0 : Int) : Option (Bool) := some (a0 != a0)
set_option maxHeartbeats 8000000 in
set_option maxRecDepth 100000 in
theorem cmp_isNaN_int.calls (a0 : Int) (r : Bool) (w : World) (h : cmp_isNaN_int.f a0 = some r) :
  Calls Try.prog 134 #[.int .i64 a0] w fun e w' => e = .returned (.bool r) ∧ Drawn0 w w' := by
 have H : (some (a0 != a0)) = some r := h
 clear h
 obtain rfl := Option.some.inj H
 go_enter Try.func134, Try.ntmps134
 go_wp2
 go_ret
 exact ⟨by first | rfl | (simp; done) | (simp [*]; done), by repeat (first | exact Drawn0.refl _ | apply Drawn0.step)⟩

/-! ### cmp_Compare_int: function 119 -/
def cmp_Compare_int.f (a0 : Int) (a1 : Int) : Option (Int) := (cmp_isNaN_int.f a0).bind fun t252 => ((cmp_isNaN_int.f a1).bind fun t253 => (if t252 = true then (if t253 = true then (some 0) else (some (-1))) else (if t253 = true then (some 1) else (if a0 < a1 then (some (-1)) else (if a0 > a1 then (some 1) else (some 0))))))
set_option maxHeartbeats 8000000 in
set_option maxRecDepth 100000 in
theorem cmp_Compare_int.calls (a0 : Int) (a1 : Int) (r : Int) (w : World) (h : cmp_Compare_int.f a0 a1 = some r) :
  Calls Try.prog 119 #[.int .i64 a0, .int .i64 a1] w fun e w' => e = .returned (.int .i64 r) ∧ Drawn0 w w' := by
 have H := h
 unfold cmp_Compare_int.f at H
 clear h
 replace H := Option.bind_eq_some_iff.mp H
 obtain ⟨t252, A30, H⟩ := H
 (try dsimp only at H)
 have A3 := mk_ A30
 clear A30
 replace H := Option.bind_eq_some_iff.mp H
 obtain ⟨t253, A40, H⟩ := H
 (try dsimp only at H)
 have A4 := mk_ A40
 clear A40
 by_cases c5 : t252 = true
 focus
  subst c5
  have H1 : (if t253 = true then (some 0) else (some (-1))) = some r := by rw [if_pos rfl] at H; exact H
  clear H
  have H := H1
  clear H1
  by_cases c6 : t253 = true
  focus
   subst c6
   have H1 : (some 0) = some r := by rw [if_pos rfl] at H; exact H
   clear H
   have H := H1
   clear H1
   obtain rfl := Option.some.inj H
  rotate_left
  focus
   replace c6 := Bool.eq_false_iff.mpr c6
   subst c6
   have H1 : (some (-1)) = some r := by rw [if_neg (show ¬ (false = true) by decide)] at H; exact H
   clear H
   have H := H1
   clear H1
   obtain rfl := Option.some.inj H
  rotate_left
 rotate_left 2
 focus
  replace c5 := Bool.eq_false_iff.mpr c5
  subst c5
  rw [if_neg (show ¬ (false = true) by decide)] at H
  by_cases c7 : t253 = true
  focus
   subst c7
   have H1 : (some 1) = some r := by rw [if_pos rfl] at H; exact H
   clear H
   have H := H1
   clear H1
   obtain rfl := Option.some.inj H
  rotate_left
  focus
   replace c7 := Bool.eq_false_iff.mpr c7
   subst c7
   rw [if_neg (show ¬ (false = true) by decide)] at H
   by_cases c8 : a0 < a1
   focus
    rw [if_pos c8] at H
    have c8b0 : decide (a0 < a1) = true := decide_eq_true c8
    clear c8
    obtain rfl := Option.some.inj H
   rotate_left
   focus
    rw [if_neg c8] at H
    have c8b0 : decide (a0 < a1) = false := decide_eq_false c8
    clear c8
    by_cases c9 : a0 > a1
    focus
     rw [if_pos c9] at H
     have c9b0 : decide (a1 < a0) = true := decide_eq_true c9
     clear c9
     obtain rfl := Option.some.inj H
    rotate_left
    focus
     rw [if_neg c9] at H
     have c9b0 : decide (a1 < a0) = false := decide_eq_false c9
     clear c9
     obtain rfl := Option.some.inj H
    rotate_left
   rotate_left 2
  rotate_left 3
 rotate_left 4
 all_goals
  go_enter Try.func119, Try.ntmps119
  go_wp2_with (first | ((with_reducible refine gate_callee (f := 134) rfl ?_); have hA_ := A3.out; refine goesL_ (some 8) rfl rfl Try.func134 (by kernel_rfl) rfl #[.int .i64 a0] rfl (by (try simp only [lm_, lo_, ln_]); try rfl) ?_; (with_reducible refine (cmp_isNaN_int.calls a0 true _ A3.out).mono ?_); rintro e w' ⟨rfl, ⟨nd, rfl⟩⟩; refine ⟨_, rfl, ?_⟩; clear hA_ A3) | ((with_reducible refine gate_callee (f := 134) rfl ?_); have hA_ := A3.out; refine goesL_ (some 8) rfl rfl Try.func134 (by kernel_rfl) rfl #[.int .i64 a0] rfl (by (try simp only [lm_, lo_, ln_]); try rfl) ?_; (with_reducible refine (cmp_isNaN_int.calls a0 false _ A3.out).mono ?_); rintro e w' ⟨rfl, ⟨nd, rfl⟩⟩; refine ⟨_, rfl, ?_⟩; clear hA_ A3) | ((with_reducible refine gate_callee (f := 134) rfl ?_); have hA_ := A4.out; refine goesL_ (some 10) rfl rfl Try.func134 (by kernel_rfl) rfl #[.int .i64 a1] rfl (by (try simp only [lm_, lo_, ln_]); try rfl) ?_; (with_reducible refine (cmp_isNaN_int.calls a1 true _ A4.out).mono ?_); rintro e w' ⟨rfl, ⟨nd, rfl⟩⟩; refine ⟨_, rfl, ?_⟩; clear hA_ A4) | ((with_reducible refine gate_callee (f := 134) rfl ?_); have hA_ := A4.out; refine goesL_ (some 10) rfl rfl Try.func134 (by kernel_rfl) rfl #[.int .i64 a1] rfl (by (try simp only [lm_, lo_, ln_]); try rfl) ?_; (with_reducible refine (cmp_isNaN_int.calls a1 false _ A4.out).mono ?_); rintro e w' ⟨rfl, ⟨nd, rfl⟩⟩; refine ⟨_, rfl, ?_⟩; clear hA_ A4))
  go_ret
  exact ⟨by first | rfl | (simp; done) | (simp [*]; done), by repeat (first | exact Drawn0.refl _ | apply Drawn0.step)⟩

/-! ### impl_Route_order: function 86 -/
def impl_Route_order.f (k : Nat) (a0_0 : Int) (a0_1 : Int) (a0_2 : Int) (a0_3 : Int) (a1_0 : Int) (a1_1 : Int) (a1_2 : Int) (a1_3 : Int) : Option (Int) := (cmp_Compare_int.f a0_1 a1_1).bind fun t256 => ((cmp_Compare_int.f a0_0 a1_0).bind fun t257 => ((cmp_Or_int.f k (([t256, t257] : List Int))).bind fun t261 => (some t261)))
theorem impl_Route_order.mono : ∀ a0 a1 a2 a3 a4 a5 a6 a7 k, LeO (impl_Route_order.f k a0 a1 a2 a3 a4 a5 a6 a7) (impl_Route_order.f (k + 1) a0 a1 a2 a3 a4 a5 a6 a7) := by
 intro a0 a1 a2 a3 a4 a5 a6 a7 k
 unfold impl_Route_order.f
 repeat' first
   | (with_reducible exact cmp_Or_int.mono _ _)
   | (with_reducible exact LeO.refl _)
   | (with_reducible exact LeO.none _)
   | (with_reducible refine LeO.ite ?_ ?_)
   | (with_reducible refine LeO.bind ?_ (fun _ => ?_))
   | exact cmp_Or_int.mono _ _
   | exact LeO.none _
   | refine LeO.ite ?_ ?_
   | refine LeO.bind ?_ (fun _ => ?_)
def impl_Route_order.T1 : Bool × List (List Nat × List Nat) := (true, [([], []), ([0], [0]), ([], []), ([2], [2]), ([1, 3], [1, 3]), ([], []), ([5], [5]), ([], []), ([7], [7]), ([6, 8, 4], [6, 8]), ([4, 9], [4, 9]), ([10, 9], [10]), ([11, 11, 0, 1, 2, 3, 4, 5, 6, 7, 8, 9, 10, 11], [11])])
def impl_Route_order.B1 : List Nat := [0, 1, 0, 4, 15, 0, 32, 0, 128, 511, 1023, 2047, 4095]
theorem impl_Route_order.tab1 : rtab .any (opsOf Try.f86 1) = impl_Route_order.T1 := by kernel_rfl
theorem impl_Route_order.bits1 : waitsOk impl_Route_order.T1.2 impl_Route_order.B1 = true := by kernel_rfl
set_option maxHeartbeats 8000000 in
set_option maxRecDepth 100000 in
theorem impl_Route_order.calls (k : Nat) (a0_0 : Int) (a0_1 : Int) (a0_2 : Int) (a0_3 : Int) (a1_0 : Int) (a1_1 : Int) (a1_2 : Int) (a1_3 : Int) (r : Int) (w : World) (h : impl_Route_order.f k a0_0 a0_1 a0_2 a0_3 a1_0 a1_1 a1_2 a1_3 = some r) :
  Calls Try.prog 86 #[.agg #[.int .i64 a0_0, .int .i64 a0_1, .int .i64 a0_2, .int .i64 a0_3], .agg #[.int .i64 a1_0, .int .i64 a1_1, .int .i64 a1_2, .int .i64 a1_3]] w fun e w' => e = .returned (.int .i64 r) ∧ Below w.heap.size w w' := by
 have hu29 := Try.underlying29
 have HB := mk_ (Below.refl w.heap.size w)
 have H := h
 unfold impl_Route_order.f at H
 clear h
 replace H := Option.bind_eq_some_iff.mp H
 obtain ⟨t256, A30, H⟩ := H
 (try dsimp only at H)
 have A3 := mk_ A30
 clear A30
 replace H := Option.bind_eq_some_iff.mp H
 obtain ⟨t257, A40, H⟩ := H
 replace H : ((cmp_Or_int.f k (([t256, t257] : List Int))).bind fun t261 => (some t261)) = some r := H
 have A4 := mk_ A40
 clear A40
 obtain ⟨y258, hy258⟩ : ∃ y_ : List Int, y_ = (([t256, t257] : List Int)) := ⟨_, rfl⟩
 replace H : ((cmp_Or_int.f k y258).bind fun t261 => (some t261)) = some r := by first | (rw [hy258]; with_reducible exact H) | (have H2_ := (Option.bind_some _ _).symm.trans H; rw [hy258]; with_reducible exact H2_) | (have H2_ := (Option.bind_some _ _).symm.trans H; with_reducible exact H2_) | with_reducible exact H | (rw [hy258]; exact H) | exact H
 have Ny258 := mk_ hy258
 clear hy258
 replace H := Option.bind_eq_some_iff.mp H
 obtain ⟨t261, A50, H⟩ := H
 replace H : (some t261) = some r := H
 have A5 := mk_ A50
 clear A50
 obtain rfl := Option.some.inj H
 go_enter Try.func86, Try.ntmps86
 try go_wp2_with (first | ((with_reducible refine gate_dst (N := 2) rfl ?_); refine box_event ?hg (N := 2) ?hd (cs := #[.int .i64 a0_0, .int .i64 a0_1, .int .i64 a0_2, .int .i64 a0_3]) (t := 29) ?hr ?_; (case hd => rfl); (case hg => rfl); (case hr => first | (go_simp; done) | (go_simp; rfl)); intro gb254 hg w6 hbox hb; have n0_ := mk_ (below_step (ub_ HB.out) hb); have BK254 := mk_ (hbox); have GW254 := mk_ ((by rw [hg]; exact (below_size (ub_ HB.out)) : w.heap.size ≤ gb254)); have GE254 := ge_ ((by rw [hg]; exact (below_size (ub_ HB.out)) : w.heap.size ≤ gb254)); replace HB := n0_; clear n0_; clear hb hbox hg) | ((with_reducible refine gate_dst (N := 3) rfl ?_); refine box_event ?hg (N := 3) ?hd (cs := #[.int .i64 a1_0, .int .i64 a1_1, .int .i64 a1_2, .int .i64 a1_3]) (t := 29) ?hr ?_; (case hd => rfl); (case hg => rfl); (case hr => first | (go_simp; done) | (go_simp; rfl)); intro gb255 hg w7 hbox hb; have n0_ := mk_ (blk_below (u_ BK254.out) hb); have n1_ := mk_ (below_step (us_ HB.out) hb); have BK255 := mk_ (hbox); have GW255 := mk_ ((by rw [hg]; exact (below_size (us_ HB.out)) : w.heap.size ≤ gb255)); have GE255 := ge_ ((by rw [hg]; exact (below_size (us_ HB.out)) : w.heap.size ≤ gb255)); have NB254_255 := nq_ ((by rw [hg]; exact Nat.ne_of_lt (blk_lt (u_ BK254.out)) : gb254 ≠ gb255)); have NB255_254 := nq_ ((by rw [hg]; exact Nat.ne_of_gt (blk_lt (u_ BK254.out)) : gb255 ≠ gb254)); replace BK254 := n0_; replace HB := n1_; clear n0_ n1_; clear hb hbox hg))
 have n0_ := mk_ (blk_drew BK254.out)
 have n1_ := mk_ (blk_drew BK255.out)
 have n2_ := mk_ (below_drew1 HB.out)
 clear BK254
 clear BK255
 clear HB
 have BK254 := n0_
 have BK255 := n1_
 have HB := n2_
 clear n0_ n1_ n2_
 refine start_ (n := 13) (S := fun w' => w'.cell? ⟨gb254, 0, none⟩ = some (.int .i64 a0_0) ∧ w'.cell? ⟨gb254, 1, none⟩ = some (.int .i64 a0_1) ∧ w'.cell? ⟨gb254, 2, none⟩ = some (.int .i64 a0_2) ∧ w'.cell? ⟨gb254, 3, none⟩ = some (.int .i64 a0_3) ∧ w'.cell? ⟨gb255, 0, none⟩ = some (.int .i64 a1_0) ∧ w'.cell? ⟨gb255, 1, none⟩ = some (.int .i64 a1_1) ∧ w'.cell? ⟨gb255, 2, none⟩ = some (.int .i64 a1_2) ∧ w'.cell? ⟨gb255, 3, none⟩ = some (.int .i64 a1_3)) (ds := []) #[F_, F_, F_, F_, F_, F_, F_, F_, F_, F_, F_, F_, F_] (by kernel_rfl) rfl rfl ⟨(blk_cell BK254.out 0).trans rfl, (blk_cell BK254.out 1).trans rfl, (blk_cell BK254.out 2).trans rfl, (blk_cell BK254.out 3).trans rfl, (blk_cell BK255.out 0).trans rfl, (blk_cell BK255.out 1).trans rfl, (blk_cell BK255.out 2).trans rfl, (blk_cell BK255.out 3).trans rfl⟩ (fun hHeld => ?_); refine with_tabW impl_Route_order.tab1 impl_Route_order.bits1 (fun HT_ HW_ => ?_)
 generalize w7.drew = w8 at BK254 BK255 HB hHeld ⊢
 refine pure_ (i := 0) (N := some 5) (v := ?_) (a' := ?_) #[T_, F_, F_, F_, F_, F_, F_, F_, F_, F_, F_, F_, F_] rfl rfl (any_of HT_.out (by kernel_rfl)) (fun _ _ _ h => h) (Or.inl ⟨by rfl, ?_⟩) ?_ ?_
 rotate_left
 ·intro w'
  go_simp
  with_reducible rfl
 rotate_left
 ·simp only [Act.put, la_, lz_, ls_, i64_w, i32_w]
  rfl
 refine pure_ (i := 2) (N := some 7) (v := ?_) (a' := ?_) #[T_, F_, T_, F_, F_, F_, F_, F_, F_, F_, F_, F_, F_] rfl rfl (any_of HT_.out (by kernel_rfl)) (fun _ _ _ h => h) (Or.inl ⟨by rfl, ?_⟩) ?_ ?_
 rotate_left
 ·intro w'
  go_simp
  with_reducible rfl
 rotate_left
 ·simp only [Act.put, la_, lz_, ls_, i64_w, i32_w]
  rfl
 refine pure_ (i := 5) (N := some 10) (v := ?_) (a' := ?_) #[T_, F_, T_, F_, F_, T_, F_, F_, F_, F_, F_, F_, F_] rfl rfl (any_of HT_.out (by kernel_rfl)) (fun _ _ _ h => h) (Or.inl ⟨by rfl, ?_⟩) ?_ ?_
 rotate_left
 ·intro w'
  go_simp
  with_reducible rfl
 rotate_left
 ·simp only [Act.put, la_, lz_, ls_, i64_w, i32_w]
  rfl
 refine pure_ (i := 7) (N := some 12) (v := ?_) (a' := ?_) #[T_, F_, T_, F_, F_, T_, F_, T_, F_, F_, F_, F_, F_] rfl rfl (any_of HT_.out (by kernel_rfl)) (fun _ _ _ h => h) (Or.inl ⟨by rfl, ?_⟩) ?_ ?_
 rotate_left
 ·intro w'
  go_simp
  with_reducible rfl
 rotate_left
 ·simp only [Act.put, la_, lz_, ls_, i64_w, i32_w]
  rfl
 refine take_ (i := 1) (N := some 6) (v := ?_) (a' := ?_) #[T_, T_, T_, F_, F_, T_, F_, T_, F_, F_, F_, F_, F_] rfl rfl (take_ofW HT_.out HW_.out (by kernel_rfl)) (fun _ _ _ h => h) (Or.inl ⟨by rfl, ?_⟩) hHeld ?_ ?_
 rotate_left
 ·rintro w' ⟨s0, s1, s2, s3, s4, s5, s6, s7⟩
  go_simp
  with_reducible rfl
 rotate_left
 ·simp only [Act.put, la_, lz_, ls_, i64_w, i32_w]
  rfl
 refine take_ (i := 3) (N := some 8) (v := ?_) (a' := ?_) #[T_, T_, T_, T_, F_, T_, F_, T_, F_, F_, F_, F_, F_] rfl rfl (take_ofW HT_.out HW_.out (by kernel_rfl)) (fun _ _ _ h => h) (Or.inl ⟨by rfl, ?_⟩) hHeld ?_ ?_
 rotate_left
 ·rintro w' ⟨s0, s1, s2, s3, s4, s5, s6, s7⟩
  go_simp
  with_reducible rfl
 rotate_left
 ·simp only [Act.put, la_, lz_, ls_, i64_w, i32_w]
  rfl
 refine take_ (i := 6) (N := some 11) (v := ?_) (a' := ?_) #[T_, T_, T_, T_, F_, T_, T_, T_, F_, F_, F_, F_, F_] rfl rfl (take_ofW HT_.out HW_.out (by kernel_rfl)) (fun _ _ _ h => h) (Or.inl ⟨by rfl, ?_⟩) hHeld ?_ ?_
 rotate_left
 ·rintro w' ⟨s0, s1, s2, s3, s4, s5, s6, s7⟩
  go_simp
  with_reducible rfl
 rotate_left
 ·simp only [Act.put, la_, lz_, ls_, i64_w, i32_w]
  rfl
 refine take_ (i := 8) (N := some 13) (v := ?_) (a' := ?_) #[T_, T_, T_, T_, F_, T_, T_, T_, T_, F_, F_, F_, F_] rfl rfl (take_ofW HT_.out HW_.out (by kernel_rfl)) (fun _ _ _ h => h) (Or.inl ⟨by rfl, ?_⟩) hHeld ?_ ?_
 rotate_left
 ·rintro w' ⟨s0, s1, s2, s3, s4, s5, s6, s7⟩
  go_simp
  with_reducible rfl
 rotate_left
 ·simp only [Act.put, la_, lz_, ls_, i64_w, i32_w]
  rfl
 refine one_ (i := 4) (N := some 9) #[T_, T_, T_, T_, T_, T_, T_, T_, T_, F_, F_, F_, F_] rfl rfl (one_of HT_.out (by kernel_rfl)) (by decide) (fun K hK => ?_)
 refine goes_ Try.func119 (by kernel_rfl) rfl #[.int .i64 a0_1, .int .i64 a1_1] (by rfl) rfl rfl (by (try simp only [lm_, lo_, ln_]); try rfl) ?_
 with_reducible refine (cmp_Compare_int.calls a0_1 a1_1 t256 _ A3.out).mono ?_
 rintro e w' ⟨rfl, ⟨nd, rfl⟩⟩
 refine ⟨_, rfl, ?_⟩
 refine hK.out _ _ ⟨(blk_cell BK254.out 0).trans rfl, (blk_cell BK254.out 1).trans rfl, (blk_cell BK254.out 2).trans rfl, (blk_cell BK254.out 3).trans rfl, (blk_cell BK255.out 0).trans rfl, (blk_cell BK255.out 1).trans rfl, (blk_cell BK255.out 2).trans rfl, (blk_cell BK255.out 3).trans rfl⟩ (fun hHeld => ?_)
 clear hK K
 refine norm_ (a' := ?_) ?_ ?_
 rotate_left
 ·show Act.put _ (some 9) _ = _
  simp only [Act.put, la_, lz_, ls_, i64_w, i32_w]
  rfl
 refine one_ (i := 9) (N := some 14) #[T_, T_, T_, T_, T_, T_, T_, T_, T_, T_, F_, F_, F_] rfl rfl (one_of HT_.out (by kernel_rfl)) (by decide) (fun K hK => ?_)
 refine goes_ Try.func119 (by kernel_rfl) rfl #[.int .i64 a0_0, .int .i64 a1_0] (by rfl) rfl rfl (by (try simp only [lm_, lo_, ln_]); try rfl) ?_
 with_reducible refine (cmp_Compare_int.calls a0_0 a1_0 t257 _ A4.out).mono ?_
 rintro e w' ⟨rfl, ⟨nd, rfl⟩⟩
 refine ⟨_, rfl, ?_⟩
 refine hK.out _ _ ⟨(blk_cell BK254.out 0).trans rfl, (blk_cell BK254.out 1).trans rfl, (blk_cell BK254.out 2).trans rfl, (blk_cell BK254.out 3).trans rfl, (blk_cell BK255.out 0).trans rfl, (blk_cell BK255.out 1).trans rfl, (blk_cell BK255.out 2).trans rfl, (blk_cell BK255.out 3).trans rfl⟩ (fun hHeld => ?_)
 clear hK K
 refine norm_ (a' := ?_) ?_ ?_
 rotate_left
 ·show Act.put _ (some 14) _ = _
  simp only [Act.put, la_, lz_, ls_, i64_w, i32_w]
  rfl
 refine one_ (i := 10) (N := some 15) #[T_, T_, T_, T_, T_, T_, T_, T_, T_, T_, T_, F_, F_] rfl rfl (one_of HT_.out (by kernel_rfl)) (by decide) (fun K hK => ?_)
 refine Kd.R_lit_step (Kd.int .i64) _ 3 ?hg (N := 15) ?hd (xs := ([t256, t257] : List Int)) (inner := [.int .i64 t256, .int .i64 t257]) (ok := fun _ => True) (okp := fun _ => True) ?hr ?hp (fun _ hk => hk) trivial (Below.refl _ _) (Nat.le_refl _) (by simp) ?_; (case hd => rfl); (case hg => rfl); (case hr => first | (go_simp; done) | (go_simp; rfl)); (case hp => exact (Reps.one (show Kd.M (Kd.int .i64) _ _ _ t256 [.int .i64 t256] from rfl) (Reps.one (show Kd.M (Kd.int .i64) _ _ _ t257 [.int .i64 t257] from rfl) (Reps.none _ _))))
 intro v259 w9 ho10 hb hg_ hnew_
 clear hg_ hnew_
 (first | rw [← Ny258.out] at ho10 | (simp only [Int.reduceToNat] at ho10; rw [← Ny258.out] at ho10))
 have n0_ := mk_ (Kd.R_lower ho10 (below_size (us_ HB.out)))
 have n1_ := mk_ (blk_below (u_ BK254.out) hb)
 have n2_ := mk_ (blk_below (u_ BK255.out) hb)
 have n3_ := mk_ (below_step (us_ HB.out) hb)
 clear BK254
 clear BK255
 clear HB
 have HO260 := n0_
 have BK254 := n1_
 have BK255 := n2_
 have HB := n3_
 clear n0_ n1_ n2_ n3_
 clear hb ho10
 obtain ⟨Ao11, co11, eo11⟩ := Kd.R_slice HO260.out
 (first | subst eo11 | (injection eo11 with f1_ f2_ f3_; have f4_ := f1_.symm; have f5_ := f3_.symm; clear f1_ f2_ f3_; subst f4_; subst f5_))
 refine hK.out _ _ ⟨(blk_cell BK254.out 0).trans rfl, (blk_cell BK254.out 1).trans rfl, (blk_cell BK254.out 2).trans rfl, (blk_cell BK254.out 3).trans rfl, (blk_cell BK255.out 0).trans rfl, (blk_cell BK255.out 1).trans rfl, (blk_cell BK255.out 2).trans rfl, (blk_cell BK255.out 3).trans rfl⟩ (fun hHeld => ?_)
 clear hK K
 refine norm_ (a' := ?_) ?_ ?_
 rotate_left
 ·show Act.put _ (some 15) _ = _
  simp only [Act.put, la_, lz_, ls_, i64_w, i32_w]
  rfl
 refine one_ (i := 11) (N := some 16) #[T_, T_, T_, T_, T_, T_, T_, T_, T_, T_, T_, T_, F_] rfl rfl (one_of HT_.out (by kernel_rfl)) (by decide) (fun K hK => ?_)
 refine goes_ Try.func118 (by kernel_rfl) rfl #[.slice Ao11 y258.length co11] (by rfl) rfl rfl (by (try simp only [lm_, lo_, ln_]); try rfl) ?_
 with_reducible refine (cmp_Or_int.calls k _ _ y258 t261 _ ?side1 ?side2 A5.out).mono ?_
 (case side1 => repeat (first | exact (Kd.R_reads' HO260.out).2.2 | (with_reducible refine Kd.C_alloc ?_ _) | (with_reducible refine Kd.C_drewN ?_ _) | (with_reducible refine Kd.C_drew ?_)))
 (case side2 => exact (Kd.R_reads' HO260.out).2.1)
 rintro e w' ⟨rfl, ⟨nd, rfl⟩⟩
 refine ⟨_, rfl, ?_⟩
 refine hK.out _ _ ⟨(blk_cell BK254.out 0).trans rfl, (blk_cell BK254.out 1).trans rfl, (blk_cell BK254.out 2).trans rfl, (blk_cell BK254.out 3).trans rfl, (blk_cell BK255.out 0).trans rfl, (blk_cell BK255.out 1).trans rfl, (blk_cell BK255.out 2).trans rfl, (blk_cell BK255.out 3).trans rfl⟩ (fun hHeld => ?_)
 clear hK K
 refine norm_ (a' := ?_) ?_ ?_
 rotate_left
 ·show Act.put _ (some 16) _ = _
  simp only [Act.put, la_, lz_, ls_, i64_w, i32_w]
  rfl
 refine pure_ (i := 12) (N := some 4) (v := ?_) (a' := ?_) #[T_, T_, T_, T_, T_, T_, T_, T_, T_, T_, T_, T_, T_] rfl rfl (any_of HT_.out (by kernel_rfl)) (fun _ _ _ h => h) (Or.inl ⟨by rfl, ?_⟩) ?_ ?_
 rotate_left
 ·intro w'
  go_simp
  with_reducible rfl
 rotate_left
 ·simp only [Act.put, la_, lz_, ls_, i64_w, i32_w]
  rfl
 refine done_ (done_of HT_.out (by kernel_rfl)) ?_
 try go_wp2
 go_ret
 exact ⟨by first | rfl | (simp [errW_none, errW_some] <;> rfl) | (simp [*, errW_none, errW_some] <;> rfl), us_ HB.out⟩

end Go.Proofs.Ytkkibccnpkbbjab.MFnRouteDrop
