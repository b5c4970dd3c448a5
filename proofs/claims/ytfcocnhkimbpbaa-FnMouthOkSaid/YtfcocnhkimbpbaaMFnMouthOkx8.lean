/- Functions that the law FnMouthOk reaches, each with the proof that the machine's call comes to just its answer; no conditions but those that each theorem states. Printed by a program of this session over the kit's print. -/
import Derived.Test.YtfcocnhkimbpbaaMFnMouthOkx0
import Derived.Test.YtfcocnhkimbpbaaMFnMouthOkx1
import Derived.Test.YtfcocnhkimbpbaaMFnMouthOkx2
import Derived.Test.YtfcocnhkimbpbaaMFnMouthOkx7
namespace Go.Proofs.Ytfcocnhkimbpbaa.MFnMouthOk
open Go.RowKit Go.Proofs.YtfcocnhkimbpbaaV.PrintWords Go.Proofs.YtfcocnhkimbpbaaV.PrintLast Go.Proofs.YtfcocnhkimbpbaaV.PrintMore
attribute [local go_sem] max2_int min2_int max_two min_two max_three min_three max_four min_four   -- for this text's walks alone
set_option linter.unusedVariables false
set_option linter.unusedSimpArgs false

attribute [local go_sem high] eqA72
/-! ### spec_DrawMouthOk: function 30 -/
def spec_DrawMouthOk.f (k : Nat) (l0 : List Int) : Option (Int × List Int × Int × Int × (List (S72))) := (spec_l20Open.f l0).bind fun bt314 => ((spec_l20Mouth.f k bt314.1 bt314.2 2).bind fun bt317 => (some (bt317.1, bt317.2.1, bt317.2.2.1, bt317.2.2.2.1, bt317.2.2.2.2.1)))
theorem spec_DrawMouthOk.mono : ∀ a0 k, LeO (spec_DrawMouthOk.f k a0) (spec_DrawMouthOk.f (k + 1) a0) := by
 intro a0 k
 unfold spec_DrawMouthOk.f
 repeat' first
   | (with_reducible exact spec_l20Mouth.mono _ _ _ _)
   | (with_reducible exact LeO.refl _)
   | (with_reducible exact LeO.none _)
   | (with_reducible refine LeO.ite ?_ ?_)
   | (with_reducible refine LeO.bind ?_ (fun _ => ?_))
   | exact spec_l20Mouth.mono _ _ _ _
   | exact LeO.none _
   | refine LeO.ite ?_ ?_
   | refine LeO.bind ?_ (fun _ => ?_)
set_option maxHeartbeats 8000000 in
set_option maxRecDepth 100000 in
theorem spec_DrawMouthOk.calls (k : Nat) (A0 : Option Addr) (c0 : Nat) (l0 : List Int) (r1 : Int) (r2 : List Int) (r3 : Int) (r4 : Int) (r5 : List (S72)) (w : World) (hr0 : Kd.C (Kd.int .u8) w A0 l0.length l0) (hc0 : l0.length ≤ c0) (h : spec_DrawMouthOk.f k l0 = some (r1, r2, r3, r4, r5)) :
  Calls Try.prog 30 #[.slice A0 l0.length c0] w fun e w' => ∃ v1_ v4_ : Value, e = .returned (.agg #[.int .i64 r1, v1_, .int .i64 r3, .int .i64 r4, v4_]) ∧ Kd.R (Kd.int .u8) 5 w' w.heap.size (fun _ => True) v1_ r2 ∧ Kd.R k72 72 w' w.heap.size (fun _ => True) v4_ r5 ∧ Below w.heap.size w w' := by
 have hu51 := Try.underlying51
 have HR0 := mk_ hr0
 have HC0 := mk_ hc0
 clear hr0 hc0
 have HB := mk_ (Below.refl w.heap.size w)
 have H : ((spec_l20Open.f l0).bind fun bt314 => ((spec_l20Mouth.f k bt314.1 bt314.2 2).bind fun bt317 => (some (bt317.1, bt317.2.1, bt317.2.2.1, bt317.2.2.2.1, bt317.2.2.2.2.1)))) = some (r1, r2, r3, r4, r5) := h
 clear h
 replace H := Option.bind_eq_some_iff.mp H
 obtain ⟨⟨t314, t315⟩, A20, H⟩ := H
 replace H : ((spec_l20Mouth.f k t314 t315 2).bind fun bt317 => (some (bt317.1, bt317.2.1, bt317.2.2.1, bt317.2.2.2.1, bt317.2.2.2.2.1))) = some (r1, r2, r3, r4, r5) := H
 have A2 := mk_ A20
 clear A20
 replace H := Option.bind_eq_some_iff.mp H
 obtain ⟨⟨t317, t318, t321, t322, t323, t326⟩, A30, H⟩ := H
 replace H : (some (t317, t318, t321, t322, t323)) = some (r1, r2, r3, r4, r5) := H
 have A3 := mk_ A30
 clear A30
 simp only [Option.some.injEq, Prod.mk.injEq] at H
 obtain ⟨rfl, rfl, rfl, rfl, rfl⟩ := H
 go_enter Try.func30, Try.ntmps30
 go_wp2_with (first | ((with_reducible refine gate_dst (N := 2) rfl ?_); refine box_event ?hg (N := 2) ?hd (cs := #[.int .i64 0, .slice none 0 0, .int .i64 0, .int .i64 0, .slice none 0 0]) (t := 51) ?hr ?_; (case hd => rfl); (case hg => rfl); (case hr => first | (go_simp; done) | (go_simp; rfl)); intro gb313 hg w4 hbox hb; have n0_ := mk_ (below_step (ub_ HB.out) hb); have n1_ := mk_ (hbox); have n2_ := mk_ ((by rw [hg]; exact (below_size (ub_ HB.out)) : w.heap.size ≤ gb313)); have n3_ := mk_ ((by rw [hg]; exact (below_size (ub_ HB.out)) : w.heap.size ≤ gb313)); clear HB; have HB := n0_; have BK313 := n1_; have GW313 := n2_; have GE313 := ge_ n3_.out; clear n0_ n1_ n2_ n3_; clear hb hbox hg) | ((with_reducible refine gate_callee (f := 44) rfl ?_); refine goesL_ (some 4) rfl rfl Try.func44 (by kernel_rfl) rfl #[.slice A0 l0.length c0] rfl (by (try simp only [lm_, lo_, ln_]); first | done | rfl | (simp only [List.length_drop, List.length_take]; rfl)) ?_; (with_reducible refine (spec_l20Open.calls _ _ l0 t314 t315 w _ ?side1 ?side2 ?side3 A2.out).mono ?_); (case side1 => repeat (first | (with_reducible first | exact HB.out | apply na_ | apply nn_ | apply nw_ | refine bs_ ?_ GE313.out) | exact HB.out)); (case side2 => exact HR0.out); (case side3 => exact HC0.out); rintro e w5 ⟨g316, rfl, hi, hb, hb2⟩; refine ⟨_, rfl, ?_⟩; have n0_ := mk_ (blk_below (u_ BK313.out) hb2); have n1_ := mk_ (hb); have n2_ := mk_ (hi); have n3_ := mk_ (IsS82.ne_blk hi (blk_below (u_ BK313.out) hb2) (by decide)); have n4_ := mk_ (Ne.symm (IsS82.ne_blk hi (blk_below (u_ BK313.out) hb2) (by decide))); clear BK313; clear HB; have BK313 := n0_; have HB := n1_; have HI316 := n2_; have NB316_313 := nq_ n3_.out; have NB313_316 := nq_ n4_.out; clear n0_ n1_ n2_ n3_ n4_; (try clear hb); (try clear hb2); (try clear hk); (try clear hi)) | ((with_reducible refine gate_callee (f := 55) rfl ?_); refine goesL_ (some 5) rfl rfl Try.func55 (by kernel_rfl) rfl #[.pointer (some ⟨g316, 0, none⟩), .int .i64 2] rfl (by (try simp only [lm_, lo_, ln_]); first | done | rfl | (simp only [List.length_drop, List.length_take]; rfl)) ?_; (with_reducible refine (spec_l20Mouth.calls k g316 t314 t315 2 t317 t318 t321 t322 t323 t326 w _ ?side1 ?side2 A3.out).mono ?_); (case side1 => repeat (first | (with_reducible first | exact HI316.out | apply IsS82.alloc | apply IsS82.drewN | apply IsS82.drew | apply IsS82.set_1 | refine IsS82.far ?_ NB316_313.out _) | exact HI316.out)); (case side2 => repeat (first | (with_reducible first | exact HB.out | apply na_ | apply nn_ | apply nw_ | refine bs_ ?_ (IsS82.ge HI316.out) | refine bs_ ?_ GE313.out) | exact HB.out)); rintro e w6 ⟨v319, v324, rfl, ho0, ho1, hi, hb, hk⟩; refine ⟨_, rfl, ?_⟩; have n0_ := mk_ (KeepBut.blk hk (g' := gb313) (o := .cells #[.int .i64 0, .slice none 0 0, .int .i64 0, .int .i64 0, .slice none 0 0] 51 (0, 0)) (u_ BK313.out) NB313_316.out (by simp)); have n1_ := mk_ (Kd.R_lower ho0 (below_size (by repeat (first | (with_reducible first | exact HB.out | apply na_ | apply nn_ | apply nw_ | refine bs_ ?_ (IsS82.ge HI316.out) | refine bs_ ?_ GE313.out) | exact HB.out)))); have n2_ := mk_ (Kd.R_lower ho1 (below_size (by repeat (first | (with_reducible first | exact HB.out | apply na_ | apply nn_ | apply nw_ | refine bs_ ?_ (IsS82.ge HI316.out) | refine bs_ ?_ GE313.out) | exact HB.out)))); have n3_ := mk_ (hb); have n4_ := mk_ (hi); clear BK313; clear HB; clear HI316; have BK313 := n0_; have HO320 := n1_; have HO325 := n2_; have HB := n3_; have HI316 := n4_; clear n0_ n1_ n2_ n3_ n4_; (try clear hb); (try clear hb2); (try clear hk); (try clear hi); (try clear ho0); (try clear ho1); have hnb7 := NB313_316.out; have hnc7 := NB316_313.out; obtain ⟨hcz8_0, hcz8_1, hcz8_2, hcz8_3, hcz8_4, hfz8_0, hfz8_1, hfz8_2, hfz8_3, hfz8_4⟩ := cells5_ BK313.out; obtain ⟨Ao9, co9, eo9⟩ := Kd.R_slice HO320.out; subst eo9; obtain ⟨Ao10, co10, eo10⟩ := Kd.R_slice HO325.out; subst eo10))
 refine bodyPost_ret (results_cell_row rfl _ _ gb313 51 #[.int .i64 t317, .slice Ao9 t318.length co9, .int .i64 t321, .int .i64 t322, .slice Ao10 t323.length co10] (0, 0) _ rfl (by (with_reducible repeat (first | refine bn_ ?_ _ | refine bw_ ?_ | refine ba_ ?_ _)); refine blk_put (cs := #[.int .i64 t317, .slice Ao9 t318.length co9, .int .i64 t321, .int .i64 t322, .slice none 0 0]) ?_ 4 _ rfl; (with_reducible repeat (first | refine bn_ ?_ _ | refine bw_ ?_ | refine ba_ ?_ _)); refine blk_put (cs := #[.int .i64 t317, .slice Ao9 t318.length co9, .int .i64 t321, .int .i64 0, .slice none 0 0]) ?_ 3 _ rfl; (with_reducible repeat (first | refine bn_ ?_ _ | refine bw_ ?_ | refine ba_ ?_ _)); refine blk_put (cs := #[.int .i64 t317, .slice Ao9 t318.length co9, .int .i64 0, .int .i64 0, .slice none 0 0]) ?_ 2 _ rfl; (with_reducible repeat (first | refine bn_ ?_ _ | refine bw_ ?_ | refine ba_ ?_ _)); refine blk_put (cs := #[.int .i64 t317, .slice none 0 0, .int .i64 0, .int .i64 0, .slice none 0 0]) ?_ 1 _ rfl; (with_reducible repeat (first | refine bn_ ?_ _ | refine bw_ ?_ | refine ba_ ?_ _)); refine blk_put (cs := #[.int .i64 0, .slice none 0 0, .int .i64 0, .int .i64 0, .slice none 0 0]) ?_ 0 _ rfl; (with_reducible repeat (first | refine bn_ ?_ _ | refine bw_ ?_ | refine ba_ ?_ _)); exact BK313.out) Try.underlying51 rfl (by kernel_rfl)) rfl ?_
 exact ⟨_, _, by first | rfl | (simp [errW_none, errW_some] <;> rfl) | (simp [*, errW_none, errW_some] <;> rfl), by (with_reducible repeat (first | apply Kd.R_alloc | apply Kd.R_drewN | apply Kd.R_drew)); exact Kd.R_mono (Kd.R_far (p := ⟨gb313, 4, none⟩) (Kd.R_far (p := ⟨gb313, 3, none⟩) (Kd.R_far (p := ⟨gb313, 2, none⟩) (Kd.R_far (p := ⟨gb313, 1, none⟩) (Kd.R_far (p := ⟨gb313, 0, none⟩) (Kd.R_types HO320.out BK313.out (by decide)) (fun _ hk => hk.2) (.int .i64 t317)) (fun _ hk => hk.2) (.slice Ao9 t318.length co9)) (fun _ hk => hk.2) (.int .i64 t321)) (fun _ hk => hk.2) (.int .i64 t322)) (fun _ hk => hk.2) (.slice Ao10 t323.length co10)) (fun _ hk => trivial), by (with_reducible repeat (first | apply Kd.R_alloc | apply Kd.R_drewN | apply Kd.R_drew)); exact Kd.R_mono (Kd.R_far (p := ⟨gb313, 4, none⟩) (Kd.R_far (p := ⟨gb313, 3, none⟩) (Kd.R_far (p := ⟨gb313, 2, none⟩) (Kd.R_far (p := ⟨gb313, 1, none⟩) (Kd.R_far (p := ⟨gb313, 0, none⟩) (Kd.R_types HO325.out BK313.out (by decide)) (fun _ hk => hk.2) (.int .i64 t317)) (fun _ hk => hk.2) (.slice Ao9 t318.length co9)) (fun _ hk => hk.2) (.int .i64 t321)) (fun _ hk => hk.2) (.int .i64 t322)) (fun _ hk => hk.2) (.slice Ao10 t323.length co10)) (fun _ hk => trivial), by repeat (first | (with_reducible first | exact HB.out | apply na_ | apply nn_ | apply nw_ | refine bs_ ?_ (IsS82.ge HI316.out) | refine bs_ ?_ GE313.out) | exact HB.out)⟩

/-! ### impl_Range_57: function 57 -/
def impl_Range_57.l0 : Nat → List (S72) → List (S72) → Int → Int → Option (Bool)
 | 0, _, _, _, _ => none
 | k + 1, x0, x1, x12, x13 => if x13 < x12 then (if 0 ≤ x13 then (if x13 < (x0.length : Int) then (if x13 < (x1.length : Int) then (if (!(((rd_T72 x0 x13).f0) == ((rd_T72 x1 x13).f0)) || (!(((rd_T72 x0 x13).f1) == ((rd_T72 x1 x13).f1)))) = true then (some false) else (impl_Range_57.l0 k x0 x1 x12 (wrap64 (x13 + 1)))) else (none)) else (none)) else (none)) else (some true)
def impl_Range_57.f (k : Nat) (l0 : List (S72)) (l1 : List (S72)) : Option (Bool) := if (l0.length : Int) = (l1.length : Int) then (impl_Range_57.l0 k l0 l1 (l0.length : Int) 0) else (some false)
theorem impl_Range_57.mono_l : ∀ k, (∀ y0 y1 y2 y3, LeO (impl_Range_57.l0 k y0 y1 y2 y3) (impl_Range_57.l0 (k + 1) y0 y1 y2 y3))
 | 0 => fun _ _ _ _ r h => by simp [impl_Range_57.l0] at h
 | k + 1 => by
  have ih0 := impl_Range_57.mono_l k
  ·intro y0 y1 y2 y3
   unfold impl_Range_57.l0
   repeat' first
   | (with_reducible exact ih0 _ _ _ _)
   | (with_reducible exact LeO.refl _)
   | (with_reducible exact LeO.none _)
   | (with_reducible refine LeO.ite ?_ ?_)
   | (with_reducible refine LeO.bind ?_ (fun _ => ?_))
   | exact ih0 _ _ _ _
   | exact LeO.none _
   | refine LeO.ite ?_ ?_
   | refine LeO.bind ?_ (fun _ => ?_)
theorem impl_Range_57.mono : ∀ a0 a1 k, LeO (impl_Range_57.f k a0 a1) (impl_Range_57.f (k + 1) a0 a1) := by
 intro a0 a1 k
 have ih0 := impl_Range_57.mono_l k
 unfold impl_Range_57.f
 repeat' first
   | (with_reducible exact ih0 _ _ _ _)
   | (with_reducible exact LeO.refl _)
   | (with_reducible exact LeO.none _)
   | (with_reducible refine LeO.ite ?_ ?_)
   | (with_reducible refine LeO.bind ?_ (fun _ => ?_))
   | exact ih0 _ _ _ _
   | exact LeO.none _
   | refine LeO.ite ?_ ?_
   | refine LeO.bind ?_ (fun _ => ?_)
set_option maxHeartbeats 8000000 in
set_option maxRecDepth 100000 in
theorem impl_Range_57.calls (k : Nat) (A0 : Option Addr) (c0 : Nat) (l0 : List (S72)) (A1 : Option Addr) (c1 : Nat) (l1 : List (S72)) (r : Bool) (w : World) (hr0 : Kd.C k72 w A0 l0.length l0) (hc0 : l0.length ≤ c0) (hr1 : Kd.C k72 w A1 l1.length l1) (hc1 : l1.length ≤ c1) (h : impl_Range_57.f k l0 l1 = some r) :
  Calls Try.prog 57 #[.slice A0 l0.length c0, .slice A1 l1.length c1] w fun e w' => e = .returned (.bool r) ∧ Drawn0 w w' := by
 have hu72 := Try.underlying72
 have HR0 := mk_ hr0
 have HC0 := mk_ hc0
 clear hr0 hc0
 have HR1 := mk_ hr1
 have HC1 := mk_ hc1
 clear hr1 hc1
 have H : (if (l0.length : Int) = (l1.length : Int) then (impl_Range_57.l0 k l0 l1 (l0.length : Int) 0) else (some false)) = some r := h
 clear h
 by_cases c3 : (l0.length : Int) = (l1.length : Int)
 rotate_left
 ·rw [if_neg c3] at H
  have c3b0 : ((l0.length : Int) == (l1.length : Int)) = false := beq_eq_false_iff_ne.mpr c3
  have c3b1 : ((l0.length : Int) != (l1.length : Int)) = true := bne_iff_ne.mpr c3
  have c3b2 : (l0.length == l1.length) = false := by first | simpa using c3 | (simp at c3 ⊢; omega)
  obtain rfl := Option.some.inj H
  go_enter Try.func57, Try.ntmps57
  go_wp2
  repeat (go_quiet (fail); try go_wp2)
  go_ret
  exact ⟨by first | rfl | (simp; done) | (simp [*]; done), by repeat (first | exact Drawn0.refl _ | apply Drawn0.step)⟩
 rw [if_pos c3] at H
 have c3b0 : ((l0.length : Int) == (l1.length : Int)) = true := beq_iff_eq.mpr c3
 have c3b1 : ((l0.length : Int) != (l1.length : Int)) = false := bne_eq_false_iff_eq.mpr c3
 have c3b2 : (l0.length == l1.length) = true := by first | simpa using c3 | (simp at c3 ⊢; omega)
 clear c3
 have H' := mk_ H
 clear H
 go_enter Try.func57, Try.ntmps57
 go_wp2
 repeat (go_quiet (fail); try go_wp2)
 go_loopg [13] k (fun kq v13 w' => ∃ (x13_1 : Int), v13 = .int .i64 x13_1 ∧ Aside0 (impl_Range_57.l0 kq l0 l1 (l0.length : Int) x13_1 = some r) ∧ Aside0 (kq ≤ k) ∧ Drawn0 w w')
 case atStart => exact ⟨(0), (by first | rfl | (simp; done) | (simp [*]; done)), H', ⟨Nat.le_refl _⟩, by repeat (first | exact Drawn0.refl _ | apply Drawn0.step)⟩
 case round =>
  clear H'
  try clear c1
  try clear p2
  try clear c3
  try clear c3b0
  try clear c3b1
  try clear c3b2
  obtain ⟨x13_1, rfl, HA, HK1, ⟨m1, rfl⟩⟩ := hrel
  cases gk with
  | zero => exact absurd HA.out (by simp [impl_Range_57.l0])
  | succ k1 =>
   have H := HA.out
   clear HA
   simp only [impl_Range_57.l0] at H
   by_cases c4 : x13_1 < (l0.length : Int)
   rotate_left
   ·rw [if_neg c4] at H
    have c4b0 : decide (x13_1 < (l0.length : Int)) = false := decide_eq_false c4
    clear c4
    obtain rfl := Option.some.inj H
    go_wp2
    repeat (go_quiet (fail); try go_wp2)
    go_ret
    exact ⟨by first | rfl | (simp; done) | (simp [*]; done), by repeat (first | exact Drawn0.refl _ | apply Drawn0.step)⟩
   rw [if_pos c4] at H
   have c4b0 : decide (x13_1 < (l0.length : Int)) = true := decide_eq_true c4
   clear c4
   by_cases c5 : 0 ≤ x13_1
   rotate_left
   ·rw [if_neg c5] at H
    exact absurd H (by simp)
   rw [if_pos c5] at H
   have c5b0 : decide (0 ≤ x13_1) = true := decide_eq_true c5
   clear c5
   by_cases c6 : x13_1 < (l0.length : Int)
   rotate_left
   ·rw [if_neg c6] at H
    exact absurd H (by simp)
   rw [if_pos c6] at H
   have c6b0 : decide (x13_1 < (l0.length : Int)) = true := decide_eq_true c6
   clear c6
   by_cases c7 : x13_1 < (l1.length : Int)
   rotate_left
   ·rw [if_neg c7] at H
    exact absurd H (by simp)
   rw [if_pos c7] at H
   have c7b0 : decide (x13_1 < (l1.length : Int)) = true := decide_eq_true c7
   clear c7
   by_cases c8 : (!(((rd_T72 l0 x13_1).f0) == ((rd_T72 l1 x13_1).f0)) || (!(((rd_T72 l0 x13_1).f1) == ((rd_T72 l1 x13_1).f1)))) = true
   ·rw [if_pos c8] at H
    have c8b0 : (!(((rd_T72 l0 x13_1).f0) == ((rd_T72 l1 x13_1).f0)) || (!(((rd_T72 l0 x13_1).f1) == ((rd_T72 l1 x13_1).f1)))) = true := c8
    clear c8
    obtain rfl := Option.some.inj H
    have p327 : 0 ≤ (x13_1 : Int) := of_decide_eq_true (by first | (with_reducible assumption) | assumption)
    have q327 : x13_1 < (l0.length : Int) := of_decide_eq_true (by first | (with_reducible assumption) | assumption)
    obtain ⟨ad327, e327, hx327_0, hx327_1⟩ := at_T72 HR0.out x13_1 p327 q327
    cases e327
    replace p327 := eq_true p327
    replace q327 := eq_true q327
    have p328 : 0 ≤ (x13_1 : Int) := of_decide_eq_true (by first | (with_reducible assumption) | assumption)
    have q328 : x13_1 < (l1.length : Int) := of_decide_eq_true (by first | (with_reducible assumption) | assumption)
    obtain ⟨ad328, e328, hx328_0, hx328_1⟩ := at_T72 HR1.out x13_1 p328 q328
    cases e328
    replace p328 := eq_true p328
    replace q328 := eq_true q328
    go_wp2
    repeat (go_quiet (fail); try go_wp2)
    go_ret
    exact ⟨by first | rfl | (simp; done) | (simp [*]; done), by repeat (first | exact Drawn0.refl _ | apply Drawn0.step)⟩
   rw [if_neg c8] at H
   have c8b0 : (!(((rd_T72 l0 x13_1).f0) == ((rd_T72 l1 x13_1).f0)) || (!(((rd_T72 l0 x13_1).f1) == ((rd_T72 l1 x13_1).f1)))) = false := by simpa using c8
   clear c8
   have H' := mk_ H
   clear H
   have p327 : 0 ≤ (x13_1 : Int) := of_decide_eq_true (by first | (with_reducible assumption) | assumption)
   have q327 : x13_1 < (l0.length : Int) := of_decide_eq_true (by first | (with_reducible assumption) | assumption)
   obtain ⟨ad327, e327, hx327_0, hx327_1⟩ := at_T72 HR0.out x13_1 p327 q327
   cases e327
   replace p327 := eq_true p327
   replace q327 := eq_true q327
   have p328 : 0 ≤ (x13_1 : Int) := of_decide_eq_true (by first | (with_reducible assumption) | assumption)
   have q328 : x13_1 < (l1.length : Int) := of_decide_eq_true (by first | (with_reducible assumption) | assumption)
   obtain ⟨ad328, e328, hx328_0, hx328_1⟩ := at_T72 HR1.out x13_1 p328 q328
   cases e328
   replace p328 := eq_true p328
   replace q328 := eq_true q328
   go_wp2
   repeat (go_quiet (fail); try go_wp2)
   go_roundg k1
   case measure => have := HK1.out; omega
   case rel => exact ⟨(wrap64 (x13_1 + 1)), (by first | rfl | (simp; done) | (simp [*]; done)), H', ⟨by have := HK1.out; omega⟩, by repeat (first | exact Drawn0.refl _ | apply Drawn0.step)⟩

/-! ### impl_Range_84: function 84 -/
set_option maxHeartbeats 400000 in
set_option maxRecDepth 100000 in
theorem impl_Range_84.calls (A : Option Addr) (n c : Nat) (w : World) (h : n ≤ c) (hn : n ≤ 9223372036854775807) :
    Calls Try.prog 84 #[.slice A n c] w fun e w' => e = .returned (.slice A n n) ∧ Drawn0 w w' := by
  obtain ⟨i0, hi0, _, hsz, _⟩ := info_parts info72
  have hcut : ∀ w : World, (Instr.slice 49 (.slice A n c) none (some (.int .i64 n)) (some (.int .i64 n))).run Try.prog w = .ok (.slice A n n) w := by
    intro w
    go_simp
  go_enter Try.func84, Try.ntmps84
  go_wp2
  go_ret
  exact ⟨rfl, Drawn0.refl _⟩

/-! ### impl_Range_76: function 76 -/
def impl_Range_76.f (l0 : List (S72)) : Option (List (S72)) := if l0.length < 8796093022208 then some l0 else none
set_option maxHeartbeats 400000 in
set_option maxRecDepth 100000 in
theorem impl_Range_76.calls (A0 : Option Addr) (c0 : Nat) (l0 : List (S72)) (r : List (S72)) (w : World) (hr0 : Kd.C k72 w A0 l0.length l0) (hc0 : l0.length ≤ c0) (h : impl_Range_76.f l0 = some r) :
    Calls Try.prog 76 #[.slice A0 l0.length c0] w fun e w' => ∃ v0_ : Value, e = .returned (v0_) ∧ Kd.R k72 72 w' w.heap.size (fun _ => True) v0_ r ∧ Below w.heap.size w w' := by
  have hlim : l0.length < 8796093022208 := by
    unfold impl_Range_76.f at h
    by_cases hl : l0.length < 8796093022208
    · exact hl
    · rw [if_neg hl] at h; cases h
  obtain rfl : l0 = r := by
    unfold impl_Range_76.f at h
    rw [if_pos hlim] at h
    exact Option.some.inj h
  clear h
  have HR := Aside0.mk hr0
  have HL := Aside0.mk hlim
  have HI := Aside0.mk info72
  clear hr0 hc0 hlim
  by_cases hz : l0.length = 0
  · have hz1 : ((l0.length : Int) == 0) = true := by simpa using hz
    have HZ := Aside0.mk hz
    clear hz
    go_enter Try.func76, Try.ntmps76
    go_wp2_with fail
    go_ret
    refine ⟨_, rfl, ?_, Below.refl _ _⟩
    rw [List.eq_nil_of_length_eq_zero HZ.out]
    exact Kd.R_nil _ _ _ _ _
  · have hz1 : ((l0.length : Int) == 0) = false := by simpa using hz
    clear hz
    go_enter Try.func76, Try.ntmps76
    go_wp2_with (first | (at_builtin; refine Kd.R_append_rows k72 (w0 := w) w.heap.size rfl (.const (.slice none 0 0)) (.tmp 6) 49 72 (.agg #[(.int .i64 0), (.int .i64 0)]) 16 rfl Try.underlying49 HI.out rfl (by decide) (by omega) (.slice none 0 0) ([] : List (S72)) l0 _ _ _ (fun _ => True) (fun _ => False) rfl rfl ?aO ?aR (fun _ _ h => h) (fun _ h => h.elim) ?aF ?aB ?aS ?aL ?_; (case aO => exact Kd.R_nil _ _ _ _ _); (case aR => exact HR.out); (case aF => exact fun _ _ => trivial); (case aB => exact Below.refl _ _); (case aS => exact Nat.le_refl _); (case aL => have := HL.out; simp; omega); intro v1 w1 ho hb hg hat; rw [List.nil_append] at ho; obtain ⟨A1, c1, hv1, hl1, hc1⟩ := Kd.R_reads ho; subst hv1; have HO := Aside0.mk ho; have HB := Aside0.mk hb; have hn1 := hc1.2.1; clear ho hb hg hat hc1) | (go_at_call 84; (with_reducible refine (impl_Range_84.calls _ _ _ _ hl1 hn1).mono ?_); rintro e w' ⟨rfl, ⟨nd, rfl⟩⟩))
    go_ret
    exact ⟨_, rfl, Kd.R_clip (by exact HO.out) rfl, by (first | exact HB.out | exact pw_below_drewN HB.out _)⟩

/-! ### impl_rangesOk: function 58 -/
def impl_rangesOk.l0 : Nat → Int → List (S72) → Int → List (S72) → Int → Int → Option ((List (S72)))
 | 0, _, _, _, _, _, _ => none
 | k + 1, x2, x7, x8, x12, x13, x14 => if x14 < x13 then (if 0 ≤ x14 then (if x14 < (x12.length : Int) then (if ((rd_T72 x12 x14).f0) > x8 then (if ((rd_T72 x12 x14).f1) > ((rd_T72 x12 x14).f0) then (if ((rd_T72 x12 x14).f1) ≤ x2 then (if (x7.length : Int) < 2 then (if x7.length < 8796093022208 then (impl_rangesOk.l0 k x2 (x7 ++ [(⟨(rd_T72 x12 x14).f0, (rd_T72 x12 x14).f1⟩ : S72)]) ((rd_T72 x12 x14).f1) x12 x13 (wrap64 (x14 + 1))) else (none)) else (impl_rangesOk.l0 k x2 x7 x8 x12 x13 (wrap64 (x14 + 1)))) else (impl_rangesOk.l0 k x2 x7 x8 x12 x13 (wrap64 (x14 + 1)))) else (impl_rangesOk.l0 k x2 x7 x8 x12 x13 (wrap64 (x14 + 1)))) else (impl_rangesOk.l0 k x2 x7 x8 x12 x13 (wrap64 (x14 + 1)))) else (none)) else (none)) else ((impl_Range_76.f x7).bind fun t334 => (some t334))
def impl_rangesOk.f (k : Nat) (l0 : List (S72)) (a1 : Int) (a2 : Int) : Option ((List (S72))) := impl_rangesOk.l0 k a2 ([] : List (S72)) a1 l0 (l0.length : Int) 0
theorem impl_rangesOk.mono_l : ∀ k, (∀ y0 y1 y2 y3 y4 y5, LeO (impl_rangesOk.l0 k y0 y1 y2 y3 y4 y5) (impl_rangesOk.l0 (k + 1) y0 y1 y2 y3 y4 y5))
 | 0 => fun _ _ _ _ _ _ r h => by simp [impl_rangesOk.l0] at h
 | k + 1 => by
  have ih0 := impl_rangesOk.mono_l k
  ·intro y0 y1 y2 y3 y4 y5
   unfold impl_rangesOk.l0
   repeat' first
   | (with_reducible exact ih0 _ _ _ _ _ _)
   | (with_reducible exact LeO.refl _)
   | (with_reducible exact LeO.none _)
   | (with_reducible refine LeO.ite ?_ ?_)
   | (with_reducible refine LeO.bind ?_ (fun _ => ?_))
   | exact ih0 _ _ _ _ _ _
   | exact LeO.none _
   | refine LeO.ite ?_ ?_
   | refine LeO.bind ?_ (fun _ => ?_)
theorem impl_rangesOk.mono : ∀ a0 a1 a2 k, LeO (impl_rangesOk.f k a0 a1 a2) (impl_rangesOk.f (k + 1) a0 a1 a2) := by
 intro a0 a1 a2 k
 have ih0 := impl_rangesOk.mono_l k
 unfold impl_rangesOk.f
 repeat' first
   | (with_reducible exact ih0 _ _ _ _ _ _)
   | (with_reducible exact LeO.refl _)
   | (with_reducible exact LeO.none _)
   | (with_reducible refine LeO.ite ?_ ?_)
   | (with_reducible refine LeO.bind ?_ (fun _ => ?_))
   | exact ih0 _ _ _ _ _ _
   | exact LeO.none _
   | refine LeO.ite ?_ ?_
   | refine LeO.bind ?_ (fun _ => ?_)
set_option maxHeartbeats 8000000 in
set_option maxRecDepth 100000 in
theorem impl_rangesOk.calls (k : Nat) (A0 : Option Addr) (c0 : Nat) (l0 : List (S72)) (a1 : Int) (a2 : Int) (r : List (S72)) (w : World) (hr0 : Kd.C k72 w A0 l0.length l0) (hc0 : l0.length ≤ c0) (h : impl_rangesOk.f k l0 a1 a2 = some r) :
  Calls Try.prog 58 #[.slice A0 l0.length c0, .int .i64 a1, .int .i64 a2] w fun e w' => ∃ v0_ : Value, e = .returned (v0_) ∧ Kd.R k72 72 w' w.heap.size (fun _ => True) v0_ r ∧ Below w.heap.size w w' := by
 have hu72 := Try.underlying72
 have HR0 := mk_ hr0
 have HC0 := mk_ hc0
 clear hr0 hc0
 have HB := mk_ (Below.refl w.heap.size w)
 have H : (impl_rangesOk.l0 k a2 ([] : List (S72)) a1 l0 (l0.length : Int) 0) = some r := h
 clear h
 have H' := mk_ H
 clear H
 go_enter Try.func58, Try.ntmps58
 go_wp2
 go_loopg [7, 8, 14] k (fun kq v7 v8 v14 w' => ∃ (x7_1 : List (S72)) (x8_1 : Int) (x14_1 : Int), v8 = .int .i64 x8_1 ∧ v14 = .int .i64 x14_1 ∧ Aside0 (impl_rangesOk.l0 kq a2 x7_1 x8_1 l0 (l0.length : Int) x14_1 = some r) ∧ Aside0 (kq ≤ k) ∧ Aside0 (Kd.R k72 72 w' w.heap.size (fun _ => True) v7 x7_1) ∧ Aside0 (Below w.heap.size w w'))
 case atStart => exact ⟨(([] : List (S72))), (a1), (0), (by first | rfl | (simp; done) | (simp [*]; done)), (by first | rfl | (simp; done) | (simp [*]; done)), H', ⟨Nat.le_refl _⟩, ⟨by first | exact Kd.R_nil _ _ _ _ _ | exact Kd.N_nil _ _ _ _ _ | exact Kd.V_nil _ _ _ _ _ | exact Kd.Q_nil _ _ _ _ _ | exact Kd.S_nil _ _ _ _ _⟩, ⟨ub_ HB.out⟩⟩
 case round =>
  clear H'
  try clear p2
  obtain ⟨x7_1, x8_1, x14_1, rfl, rfl, HA, HK1, HO_7, HB⟩ := hrel
  cases gk with
  | zero => exact absurd HA.out (by simp [impl_rangesOk.l0])
  | succ k1 =>
   have H := HA.out
   clear HA
   simp only [impl_rangesOk.l0] at H
   by_cases c4 : x14_1 < (l0.length : Int)
   rotate_left
   ·rw [if_neg c4] at H
    have c4b0 : decide (x14_1 < (l0.length : Int)) = false := decide_eq_false c4
    clear c4
    replace H := Option.bind_eq_some_iff.mp H
    obtain ⟨t334, A260, H⟩ := H
    replace H : (some t334) = some r := H
    have A26 := mk_ A260
    clear A260
    obtain rfl := Option.some.inj H
    obtain ⟨Ao27, co27, eo27⟩ := Kd.R_slice HO_7.out
    subst eo27
    go_wp2_with (first | ((with_reducible refine gate_callee (f := 76) rfl ?_); refine goesL_ (some 48) rfl rfl Try.func76 (by kernel_rfl) rfl #[.slice Ao27 x7_1.length co27] rfl (by (try simp only [lm_, lo_, ln_]); first | done | rfl | (simp only [List.length_drop, List.length_take]; rfl)) ?_; (with_reducible refine (impl_Range_76.calls _ _ x7_1 t334 _ ?side1 ?side2 A26.out).mono ?_); (case side1 => repeat (first | exact (Kd.R_reads' HO_7.out).2.2 | (with_reducible refine Kd.C_alloc ?_ _) | (with_reducible refine Kd.C_drewN ?_ _) | (with_reducible refine Kd.C_drew ?_))); (case side2 => exact (Kd.R_reads' HO_7.out).2.1); rintro e w28 ⟨v335, rfl, ho0, hb⟩; refine ⟨_, rfl, ?_⟩; have n0_ := mk_ (Kd.R_elder' (Kd.ur_ HO_7.out) (Kd.R_base ho0) hb); have n1_ := mk_ (Kd.R_lower (Kd.R_new' ho0 (Kd.R_lt (Kd.ur_ HO_7.out))) (below_size (ub_ HB.out))); have n2_ := mk_ (below_step (ub_ HB.out) hb); clear HO_7; clear HB; have HO_7 := n0_; have HO336 := n1_; have HB := n2_; clear n0_ n1_ n2_; (try clear hb); (try clear hb2); (try clear hk); (try clear hi); (try clear ho0)))
    go_ret
    exact ⟨_, by first | rfl | (simp [errW_none, errW_some] <;> rfl) | (simp [*, errW_none, errW_some] <;> rfl), by (with_reducible repeat (first | apply Kd.R_alloc | apply Kd.R_drewN | apply Kd.R_drew)); exact Kd.R_mono HO336.out (fun _ hk => trivial), by repeat (first | (with_reducible first | exact HB.out | apply na_ | apply nn_ | apply nw_) | exact HB.out)⟩
   rw [if_pos c4] at H
   have c4b0 : decide (x14_1 < (l0.length : Int)) = true := decide_eq_true c4
   clear c4
   by_cases c5 : 0 ≤ x14_1
   rotate_left
   ·rw [if_neg c5] at H
    exact absurd H (by simp)
   rw [if_pos c5] at H
   have c5b0 : decide (0 ≤ x14_1) = true := decide_eq_true c5
   clear c5
   by_cases c6 : x14_1 < (l0.length : Int)
   rotate_left
   ·rw [if_neg c6] at H
    exact absurd H (by simp)
   rw [if_pos c6] at H
   have c6b0 : decide (x14_1 < (l0.length : Int)) = true := decide_eq_true c6
   clear c6
   by_cases c7 : ((rd_T72 l0 x14_1).f0) > x8_1
   rotate_left
   ·rw [if_neg c7] at H
    have c7b0 : decide (x8_1 < ((rd_T72 l0 x14_1).f0)) = false := decide_eq_false c7
    clear c7
    have H' := mk_ H
    clear H
    have p329 : 0 ≤ (x14_1 : Int) := of_decide_eq_true (by first | (with_reducible assumption) | assumption)
    have q329 : x14_1 < (l0.length : Int) := of_decide_eq_true (by first | (with_reducible assumption) | assumption)
    obtain ⟨ad329, e329, hx329_0, hx329_1⟩ := at_T72 HR0.out x14_1 p329 q329
    cases e329
    replace hx329_0 := (HB.out.cell (lc_ w _ hx329_0)).trans hx329_0
    replace hx329_1 := (HB.out.cell (lc_ w _ hx329_1)).trans hx329_1
    replace p329 := eq_true p329
    replace q329 := eq_true q329
    go_wp2_with (first | ((with_reducible refine gate_dst (N := 10) rfl ?_); refine box_event ?hg (N := 10) ?hd (cs := #[.int .i64 0, .int .i64 0]) (t := 72) ?hr ?_; (case hd => rfl); (case hg => rfl); (case hr => first | (go_simp; done) | (go_simp; rfl)); intro gb330 hg w24 hbox hb; have n0_ := mk_ (Kd.R_below (Kd.R_elderB (Kd.ur_ HO_7.out) gb330 (Nat.le_of_eq hg.symm)) hb); have n1_ := mk_ (below_step (ub_ HB.out) hb); have n2_ := mk_ (hbox); have n3_ := mk_ ((by rw [hg]; exact (below_size (ub_ HB.out)) : w.heap.size ≤ gb330)); have n4_ := mk_ ((by rw [hg]; exact (below_size (ub_ HB.out)) : w.heap.size ≤ gb330)); clear HO_7; clear HB; have HO_7 := n0_; have HB := n1_; have BK330 := n2_; have GW330 := n3_; have GE330 := ge_ n4_.out; clear n0_ n1_ n2_ n3_ n4_; clear hb hbox hg; obtain ⟨hcz25_0, hcz25_1, hfz25_0, hfz25_1⟩ := cells2_ BK330.out))
    go_roundg k1
    case measure => have := HK1.out; omega
    case rel => exact ⟨(x7_1), (x8_1), (wrap64 (x14_1 + 1)), (by first | rfl | (simp; done) | (simp [*]; done)), (by first | rfl | (simp; done) | (simp [*]; done)), H', ⟨by have := HK1.out; omega⟩, ⟨by (with_reducible repeat (first | apply Kd.R_alloc | apply Kd.R_drewN | apply Kd.R_drew)); exact Kd.R_mono (Kd.R_far (p := ⟨gb330, 1, none⟩) (Kd.R_far (p := ⟨gb330, 0, none⟩) (Kd.R_mono HO_7.out (fun k_ hk => (⟨hk, hk.2⟩ : _ ∧ k_ ≠ gb330))) (fun _ hk => hk.2) (.int .i64 ((rd_T72 l0 x14_1).f0))) (fun _ hk => hk.2) (.int .i64 ((rd_T72 l0 x14_1).f1))) (fun _ hk => trivial)⟩, ⟨us_ HB.out⟩⟩
   rw [if_pos c7] at H
   have c7b0 : decide (x8_1 < ((rd_T72 l0 x14_1).f0)) = true := decide_eq_true c7
   clear c7
   by_cases c8 : ((rd_T72 l0 x14_1).f1) > ((rd_T72 l0 x14_1).f0)
   rotate_left
   ·rw [if_neg c8] at H
    have c8b0 : decide (((rd_T72 l0 x14_1).f0) < ((rd_T72 l0 x14_1).f1)) = false := decide_eq_false c8
    clear c8
    have H' := mk_ H
    clear H
    have p329 : 0 ≤ (x14_1 : Int) := of_decide_eq_true (by first | (with_reducible assumption) | assumption)
    have q329 : x14_1 < (l0.length : Int) := of_decide_eq_true (by first | (with_reducible assumption) | assumption)
    obtain ⟨ad329, e329, hx329_0, hx329_1⟩ := at_T72 HR0.out x14_1 p329 q329
    cases e329
    replace hx329_0 := (HB.out.cell (lc_ w _ hx329_0)).trans hx329_0
    replace hx329_1 := (HB.out.cell (lc_ w _ hx329_1)).trans hx329_1
    replace p329 := eq_true p329
    replace q329 := eq_true q329
    go_wp2_with (first | ((with_reducible refine gate_dst (N := 10) rfl ?_); refine box_event ?hg (N := 10) ?hd (cs := #[.int .i64 0, .int .i64 0]) (t := 72) ?hr ?_; (case hd => rfl); (case hg => rfl); (case hr => first | (go_simp; done) | (go_simp; rfl)); intro gb330 hg w22 hbox hb; have n0_ := mk_ (Kd.R_below (Kd.R_elderB (Kd.ur_ HO_7.out) gb330 (Nat.le_of_eq hg.symm)) hb); have n1_ := mk_ (below_step (ub_ HB.out) hb); have n2_ := mk_ (hbox); have n3_ := mk_ ((by rw [hg]; exact (below_size (ub_ HB.out)) : w.heap.size ≤ gb330)); have n4_ := mk_ ((by rw [hg]; exact (below_size (ub_ HB.out)) : w.heap.size ≤ gb330)); clear HO_7; clear HB; have HO_7 := n0_; have HB := n1_; have BK330 := n2_; have GW330 := n3_; have GE330 := ge_ n4_.out; clear n0_ n1_ n2_ n3_ n4_; clear hb hbox hg; obtain ⟨hcz23_0, hcz23_1, hfz23_0, hfz23_1⟩ := cells2_ BK330.out))
    go_roundg k1
    case measure => have := HK1.out; omega
    case rel => exact ⟨(x7_1), (x8_1), (wrap64 (x14_1 + 1)), (by first | rfl | (simp; done) | (simp [*]; done)), (by first | rfl | (simp; done) | (simp [*]; done)), H', ⟨by have := HK1.out; omega⟩, ⟨by (with_reducible repeat (first | apply Kd.R_alloc | apply Kd.R_drewN | apply Kd.R_drew)); exact Kd.R_mono (Kd.R_far (p := ⟨gb330, 1, none⟩) (Kd.R_far (p := ⟨gb330, 0, none⟩) (Kd.R_mono HO_7.out (fun k_ hk => (⟨hk, hk.2⟩ : _ ∧ k_ ≠ gb330))) (fun _ hk => hk.2) (.int .i64 ((rd_T72 l0 x14_1).f0))) (fun _ hk => hk.2) (.int .i64 ((rd_T72 l0 x14_1).f1))) (fun _ hk => trivial)⟩, ⟨us_ HB.out⟩⟩
   rw [if_pos c8] at H
   have c8b0 : decide (((rd_T72 l0 x14_1).f0) < ((rd_T72 l0 x14_1).f1)) = true := decide_eq_true c8
   clear c8
   by_cases c9 : ((rd_T72 l0 x14_1).f1) ≤ a2
   rotate_left
   ·rw [if_neg c9] at H
    have c9b0 : decide (((rd_T72 l0 x14_1).f1) ≤ a2) = false := decide_eq_false c9
    clear c9
    have H' := mk_ H
    clear H
    have p329 : 0 ≤ (x14_1 : Int) := of_decide_eq_true (by first | (with_reducible assumption) | assumption)
    have q329 : x14_1 < (l0.length : Int) := of_decide_eq_true (by first | (with_reducible assumption) | assumption)
    obtain ⟨ad329, e329, hx329_0, hx329_1⟩ := at_T72 HR0.out x14_1 p329 q329
    cases e329
    replace hx329_0 := (HB.out.cell (lc_ w _ hx329_0)).trans hx329_0
    replace hx329_1 := (HB.out.cell (lc_ w _ hx329_1)).trans hx329_1
    replace p329 := eq_true p329
    replace q329 := eq_true q329
    go_wp2_with (first | ((with_reducible refine gate_dst (N := 10) rfl ?_); refine box_event ?hg (N := 10) ?hd (cs := #[.int .i64 0, .int .i64 0]) (t := 72) ?hr ?_; (case hd => rfl); (case hg => rfl); (case hr => first | (go_simp; done) | (go_simp; rfl)); intro gb330 hg w20 hbox hb; have n0_ := mk_ (Kd.R_below (Kd.R_elderB (Kd.ur_ HO_7.out) gb330 (Nat.le_of_eq hg.symm)) hb); have n1_ := mk_ (below_step (ub_ HB.out) hb); have n2_ := mk_ (hbox); have n3_ := mk_ ((by rw [hg]; exact (below_size (ub_ HB.out)) : w.heap.size ≤ gb330)); have n4_ := mk_ ((by rw [hg]; exact (below_size (ub_ HB.out)) : w.heap.size ≤ gb330)); clear HO_7; clear HB; have HO_7 := n0_; have HB := n1_; have BK330 := n2_; have GW330 := n3_; have GE330 := ge_ n4_.out; clear n0_ n1_ n2_ n3_ n4_; clear hb hbox hg; obtain ⟨hcz21_0, hcz21_1, hfz21_0, hfz21_1⟩ := cells2_ BK330.out))
    go_roundg k1
    case measure => have := HK1.out; omega
    case rel => exact ⟨(x7_1), (x8_1), (wrap64 (x14_1 + 1)), (by first | rfl | (simp; done) | (simp [*]; done)), (by first | rfl | (simp; done) | (simp [*]; done)), H', ⟨by have := HK1.out; omega⟩, ⟨by (with_reducible repeat (first | apply Kd.R_alloc | apply Kd.R_drewN | apply Kd.R_drew)); exact Kd.R_mono (Kd.R_far (p := ⟨gb330, 1, none⟩) (Kd.R_far (p := ⟨gb330, 0, none⟩) (Kd.R_mono HO_7.out (fun k_ hk => (⟨hk, hk.2⟩ : _ ∧ k_ ≠ gb330))) (fun _ hk => hk.2) (.int .i64 ((rd_T72 l0 x14_1).f0))) (fun _ hk => hk.2) (.int .i64 ((rd_T72 l0 x14_1).f1))) (fun _ hk => trivial)⟩, ⟨us_ HB.out⟩⟩
   rw [if_pos c9] at H
   have c9b0 : decide (((rd_T72 l0 x14_1).f1) ≤ a2) = true := decide_eq_true c9
   clear c9
   by_cases c10 : (x7_1.length : Int) < 2
   rotate_left
   ·rw [if_neg c10] at H
    have c10b0 : decide ((x7_1.length : Int) < 2) = false := decide_eq_false c10
    have c10b1 : decide (x7_1.length < 2) = false := decide_eq_false (by omega)
    clear c10
    have H' := mk_ H
    clear H
    have p329 : 0 ≤ (x14_1 : Int) := of_decide_eq_true (by first | (with_reducible assumption) | assumption)
    have q329 : x14_1 < (l0.length : Int) := of_decide_eq_true (by first | (with_reducible assumption) | assumption)
    obtain ⟨ad329, e329, hx329_0, hx329_1⟩ := at_T72 HR0.out x14_1 p329 q329
    cases e329
    replace hx329_0 := (HB.out.cell (lc_ w _ hx329_0)).trans hx329_0
    replace hx329_1 := (HB.out.cell (lc_ w _ hx329_1)).trans hx329_1
    replace p329 := eq_true p329
    replace q329 := eq_true q329
    go_wp2_with (first | ((with_reducible refine gate_dst (N := 10) rfl ?_); refine box_event ?hg (N := 10) ?hd (cs := #[.int .i64 0, .int .i64 0]) (t := 72) ?hr ?_; (case hd => rfl); (case hg => rfl); (case hr => first | (go_simp; done) | (go_simp; rfl)); intro gb330 hg w17 hbox hb; have n0_ := mk_ (Kd.R_below (Kd.R_elderB (Kd.ur_ HO_7.out) gb330 (Nat.le_of_eq hg.symm)) hb); have n1_ := mk_ (below_step (ub_ HB.out) hb); have n2_ := mk_ (hbox); have n3_ := mk_ ((by rw [hg]; exact (below_size (ub_ HB.out)) : w.heap.size ≤ gb330)); have n4_ := mk_ ((by rw [hg]; exact (below_size (ub_ HB.out)) : w.heap.size ≤ gb330)); clear HO_7; clear HB; have HO_7 := n0_; have HB := n1_; have BK330 := n2_; have GW330 := n3_; have GE330 := ge_ n4_.out; clear n0_ n1_ n2_ n3_ n4_; clear hb hbox hg; obtain ⟨hcz18_0, hcz18_1, hfz18_0, hfz18_1⟩ := cells2_ BK330.out; obtain ⟨Ao19, co19, eo19⟩ := Kd.R_slice HO_7.out; subst eo19))
    go_roundg k1
    case measure => have := HK1.out; omega
    case rel => exact ⟨(x7_1), (x8_1), (wrap64 (x14_1 + 1)), (by first | rfl | (simp; done) | (simp [*]; done)), (by first | rfl | (simp; done) | (simp [*]; done)), H', ⟨by have := HK1.out; omega⟩, ⟨by (with_reducible repeat (first | apply Kd.R_alloc | apply Kd.R_drewN | apply Kd.R_drew)); exact Kd.R_mono (Kd.R_far (p := ⟨gb330, 1, none⟩) (Kd.R_far (p := ⟨gb330, 0, none⟩) (Kd.R_mono HO_7.out (fun k_ hk => (⟨hk, hk.2⟩ : _ ∧ k_ ≠ gb330))) (fun _ hk => hk.2) (.int .i64 ((rd_T72 l0 x14_1).f0))) (fun _ hk => hk.2) (.int .i64 ((rd_T72 l0 x14_1).f1))) (fun _ hk => trivial)⟩, ⟨us_ HB.out⟩⟩
   rw [if_pos c10] at H
   have c10b0 : decide ((x7_1.length : Int) < 2) = true := decide_eq_true c10
   have c10b1 : decide (x7_1.length < 2) = true := decide_eq_true (by omega)
   clear c10
   by_cases c11 : x7_1.length < 8796093022208
   rotate_left
   ·rw [if_neg c11] at H
    exact absurd H (by simp)
   rw [if_pos c11] at H
   have LMc11 := mk_ c11
   clear c11
   obtain ⟨y331, hy331⟩ : ∃ y_ : List (S72), y_ = (x7_1 ++ [(⟨(rd_T72 l0 x14_1).f0, (rd_T72 l0 x14_1).f1⟩ : S72)]) := ⟨_, rfl⟩
   replace H : (impl_rangesOk.l0 k1 a2 y331 ((rd_T72 l0 x14_1).f1) l0 (l0.length : Int) (wrap64 (x14_1 + 1))) = some r := by first | (rw [hy331]; with_reducible exact H) | (have H2_ := (Option.bind_some _ _).symm.trans H; rw [hy331]; with_reducible exact H2_) | (have H2_ := (Option.bind_some _ _).symm.trans H; with_reducible exact H2_) | with_reducible exact H | (rw [hy331]; exact H) | exact H
   have Ny331 := mk_ hy331
   clear hy331
   have H' := mk_ H
   clear H
   have p329 : 0 ≤ (x14_1 : Int) := of_decide_eq_true (by first | (with_reducible assumption) | assumption)
   have q329 : x14_1 < (l0.length : Int) := of_decide_eq_true (by first | (with_reducible assumption) | assumption)
   obtain ⟨ad329, e329, hx329_0, hx329_1⟩ := at_T72 HR0.out x14_1 p329 q329
   cases e329
   replace hx329_0 := (HB.out.cell (lc_ w _ hx329_0)).trans hx329_0
   replace hx329_1 := (HB.out.cell (lc_ w _ hx329_1)).trans hx329_1
   replace p329 := eq_true p329
   replace q329 := eq_true q329
   go_wp2_with (first | ((with_reducible refine gate_dst (N := 10) rfl ?_); refine box_event ?hg (N := 10) ?hd (cs := #[.int .i64 0, .int .i64 0]) (t := 72) ?hr ?_; (case hd => rfl); (case hg => rfl); (case hr => first | (go_simp; done) | (go_simp; rfl)); intro gb330 hg w12 hbox hb; have n0_ := mk_ (Kd.R_below (Kd.R_elderB (Kd.ur_ HO_7.out) gb330 (Nat.le_of_eq hg.symm)) hb); have n1_ := mk_ (below_step (ub_ HB.out) hb); have n2_ := mk_ (hbox); have n3_ := mk_ ((by rw [hg]; exact (below_size (ub_ HB.out)) : w.heap.size ≤ gb330)); have n4_ := mk_ ((by rw [hg]; exact (below_size (ub_ HB.out)) : w.heap.size ≤ gb330)); clear HO_7; clear HB; have HO_7 := n0_; have HB := n1_; have BK330 := n2_; have GW330 := n3_; have GE330 := ge_ n4_.out; clear n0_ n1_ n2_ n3_ n4_; clear hb hbox hg; obtain ⟨hcz13_0, hcz13_1, hfz13_0, hfz13_1⟩ := cells2_ BK330.out; obtain ⟨Ao14, co14, eo14⟩ := Kd.R_slice HO_7.out; subst eo14) | ((with_reducible refine gate_builtin (b := .append) (xs := #[.tmp 40, .tmp 42]) rfl ?_); at_builtin; refine Kd.R_append k72 (w0 := w) w.heap.size rfl (.tmp 40) (.tmp 42) 49 72 (.agg #[(.int .i64 0), (.int .i64 0)]) 16 rfl Try.underlying49 info72 rfl (by decide) (by omega) (.slice Ao14 x7_1.length co14) x7_1 (⟨(rd_T72 l0 x14_1).f0, (rd_T72 l0 x14_1).f1⟩ : S72) [.int .i64 ((rd_T72 l0 x14_1).f0), .int .i64 ((rd_T72 l0 x14_1).f1)] (fun k_ => k_ ≠ gb330) (fun _ => False) rfl (by first | (go_simp; done) | (go_simp; rfl)) ?aP (fun _ hk => hk.elim) ?aF ?aO ?aB ?aS ?aL ?_; (case aP => exact k72_mkM _ _ _ (⟨(rd_T72 l0 x14_1).f0, (rd_T72 l0 x14_1).f1⟩ : S72)); (case aB => exact (us_ HB.out)); (case aF => exact (fun k_ hk => Kd.freshB (g := gb330) (o := .cells #[.int .i64 ((rd_T72 l0 x14_1).f0), .int .i64 ((rd_T72 l0 x14_1).f1)] 72 (0, 0)) (by (with_reducible repeat (first | refine bn_ ?_ _ | refine bw_ ?_ | refine ba_ ?_ _)); refine blk_put (cs := #[.int .i64 ((rd_T72 l0 x14_1).f0), .int .i64 0]) ?_ 1 _ rfl; (with_reducible repeat (first | refine bn_ ?_ _ | refine bw_ ?_ | refine ba_ ?_ _)); refine blk_put (cs := #[.int .i64 0, .int .i64 0]) ?_ 0 _ rfl; (with_reducible repeat (first | refine bn_ ?_ _ | refine bw_ ?_ | refine ba_ ?_ _)); exact BK330.out) k_ hk)); (case aO => exact (by (with_reducible repeat (first | apply Kd.R_alloc | apply Kd.R_drewN | apply Kd.R_drew)); exact Kd.R_mono (Kd.R_far (p := ⟨gb330, 1, none⟩) (Kd.R_far (p := ⟨gb330, 0, none⟩) (Kd.R_mono HO_7.out (fun k_ hk => (⟨hk, hk.2⟩ : _ ∧ k_ ≠ gb330))) (fun _ hk => hk.2) (.int .i64 ((rd_T72 l0 x14_1).f0))) (fun _ hk => hk.2) (.int .i64 ((rd_T72 l0 x14_1).f1))) (fun _ hk => hk.1.2))); (case aS => exact (below_size (us_ HB.out))); (case aL => have := LMc11.out; omega); intro v332 w15 ho hb hg hat; rw [← Ny331.out] at ho; have n0_ := mk_ (blk_grown (g := gb330) (o := .cells #[.int .i64 ((rd_T72 l0 x14_1).f0), .int .i64 ((rd_T72 l0 x14_1).f1)] 72 (0, 0)) (by (with_reducible repeat (first | refine bn_ ?_ _ | refine bw_ ?_ | refine ba_ ?_ _)); refine blk_put (cs := #[.int .i64 ((rd_T72 l0 x14_1).f0), .int .i64 0]) ?_ 1 _ rfl; (with_reducible repeat (first | refine bn_ ?_ _ | refine bw_ ?_ | refine ba_ ?_ _)); refine blk_put (cs := #[.int .i64 0, .int .i64 0]) ?_ 0 _ rfl; (with_reducible repeat (first | refine bn_ ?_ _ | refine bw_ ?_ | refine ba_ ?_ _)); exact BK330.out) hg (Kd.R_away HO_7.out (fun _ hk => hk.2))); have n1_ := mk_ (hb); have n2_ := mk_ (ho); clear BK330; clear HB; clear HO_7; have BK330 := n0_; have HB := n1_; have HO333 := n2_; clear n0_ n1_ n2_; clear ho hb hg hat; obtain ⟨hcz16_0, hcz16_1, hfz16_0, hfz16_1⟩ := cells2_ BK330.out))
   go_roundg k1
   case measure => have := HK1.out; omega
   case rel => exact ⟨(y331), ((rd_T72 l0 x14_1).f1), (wrap64 (x14_1 + 1)), (by first | rfl | (simp; done) | (simp [*]; done)), (by first | rfl | (simp; done) | (simp [*]; done)), H', ⟨by have := HK1.out; omega⟩, ⟨by (with_reducible repeat (first | apply Kd.R_alloc | apply Kd.R_drewN | apply Kd.R_drew)); exact Kd.R_mono HO333.out (fun _ hk => trivial)⟩, ⟨us_ HB.out⟩⟩

end Go.Proofs.Ytfcocnhkimbpbaa.MFnMouthOk
