/- Functions that the law FnEarOk reaches, each with the proof that the machine's call comes to just its answer; no conditions but those that each theorem states. Printed by a program of this session over the kit's print. -/
import Derived.Test.YtkkibccnpkbbjabMFnEarOkx0
import Derived.Test.YtkkibccnpkbbjabMFnEarOkx1
import Derived.Test.YtkkibccnpkbbjabMFnEarOkx2
import Derived.Test.YtkkibccnpkbbjabMFnEarOkx7
import Derived.Test.YtkkibccnpkbbjabMFnEarOkx8
namespace Go.Proofs.Ytkkibccnpkbbjab.MFnEarOk
open Go.RowKit Go.Proofs.YtkkibccnpkbbjabV.PrintWords Go.Proofs.YtkkibccnpkbbjabV.PrintLast Go.Proofs.YtkkibccnpkbbjabV.PrintMore
attribute [local go_sem] max2_int min2_int max_two min_two max_three min_three max_four min_four   -- for this text's walks alone
set_option linter.unusedVariables false
set_option linter.unusedSimpArgs false

/-! ### laws_FnEarOk: function 7 -/
def laws_FnEarOk.f (k : Nat) (l0 : List Int) : Option (Bool) := if (l0.length : Int) > 1048576 then (some true) else ((spec_DrawEarOk.f k l0).bind fun bt307 => ((impl_EarOk.f k bt307.1 bt307.2.1 bt307.2.2.1 bt307.2.2.2).bind fun t316 => ((spec_EarOk.f k bt307.1 bt307.2.1 bt307.2.2.1 bt307.2.2.2).bind fun t317 => (if (t316 != t317) = true then (some false) else (if t316 = true then (if (wrap64 ((bt307.2.2.1.length : Int) + (bt307.2.2.2.length : Int))) ≤ bt307.2.1 then ((impl_EarOk.f k bt307.1 bt307.2.1 bt307.2.2.1 ([] : List (S68))).bind fun t318 => (if t318 = true then ((impl_EarOk.f k 0 1 ([] : List Int) ([] : List (S68))).bind fun t319 => (if t319 = true then ((laws_alive.f k).bind fun t320 => (some t320)) else (some false))) else (some false))) else (some false)) else ((impl_EarOk.f k 0 1 ([] : List Int) ([] : List (S68))).bind fun t321 => (if t321 = true then ((laws_alive.f k).bind fun t322 => (some t322)) else (some false))))))))
theorem laws_FnEarOk.mono : ∀ a0 k, LeO (laws_FnEarOk.f k a0) (laws_FnEarOk.f (k + 1) a0) := by
 intro a0 k
 unfold laws_FnEarOk.f
 repeat' first
   | (with_reducible exact impl_EarOk.mono _ _ _ _ _)
   | (with_reducible exact laws_alive.mono _)
   | (with_reducible exact spec_DrawEarOk.mono _ _)
   | (with_reducible exact spec_EarOk.mono _ _ _ _ _)
   | (with_reducible exact LeO.refl _)
   | (with_reducible exact LeO.none _)
   | (with_reducible refine LeO.ite ?_ ?_)
   | (with_reducible refine LeO.bind ?_ (fun _ => ?_))
   | exact impl_EarOk.mono _ _ _ _ _
   | exact laws_alive.mono _
   | exact spec_DrawEarOk.mono _ _
   | exact spec_EarOk.mono _ _ _ _ _
   | exact LeO.none _
   | refine LeO.ite ?_ ?_
   | refine LeO.bind ?_ (fun _ => ?_)
set_option maxHeartbeats 8000000 in
set_option maxRecDepth 100000 in
theorem laws_FnEarOk.calls (k : Nat) (A0 : Option Addr) (c0 : Nat) (l0 : List Int) (r : Bool) (w : World) (hr0 : Kd.C (Kd.int .u8) w A0 l0.length l0) (hc0 : l0.length ≤ c0) (h : laws_FnEarOk.f k l0 = some r) :
  Calls Try.prog 7 #[.slice A0 l0.length c0] w fun e w' => e = .returned (.bool r) ∧ Below w.heap.size w w' := by
 have hu59 := Try.underlying59
 have HR0 := mk_ hr0
 have HC0 := mk_ hc0
 clear hr0 hc0
 have HB := mk_ (Below.refl w.heap.size w)
 have H := h
 unfold laws_FnEarOk.f at H
 clear h
 by_cases c2 : (l0.length : Int) > 1048576
 focus
  rw [if_pos c2] at H
  have c2b0 : decide (1048576 < (l0.length : Int)) = true := decide_eq_true c2
  have c2b1 : decide (1048576 < l0.length) = true := decide_eq_true (by omega)
  clear c2
  obtain rfl := Option.some.inj H
 rotate_left
 focus
  rw [if_neg c2] at H
  have c2b0 : decide (1048576 < (l0.length : Int)) = false := decide_eq_false c2
  have c2b1 : decide (1048576 < l0.length) = false := decide_eq_false (by omega)
  clear c2
  replace H := Option.bind_eq_some_iff.mp H
  obtain ⟨⟨t307, t308, t309, t312⟩, A30, H⟩ := H
  (try dsimp only at H)
  have A3 := mk_ A30
  clear A30
  replace H := Option.bind_eq_some_iff.mp H
  obtain ⟨t316, A40, H⟩ := H
  (try dsimp only at H)
  have A4 := mk_ A40
  clear A40
  replace H := Option.bind_eq_some_iff.mp H
  obtain ⟨t317, A50, H⟩ := H
  (try dsimp only at H)
  have A5 := mk_ A50
  clear A50
  by_cases c6 : (t316 != t317) = true
  focus
   rw [if_pos c6] at H
   have c6b0 : (t316 != t317) = true := c6
   (try (have c6b1 : decide (t316 = t317) = false := by simpa using c6))
   (try (have c6b2 : (t316 == t317) = false := by simpa using c6))
   (try (have c6b3 : ¬ (t316 = t317) := by simpa using c6))
   clear c6
   obtain rfl := Option.some.inj H
  rotate_left
  focus
   rw [if_neg c6] at H
   have c6b0 : (t316 != t317) = false := by simpa using c6
   (try (have c6b1 : decide (t316 = t317) = true := by simpa using c6))
   (try (have c6b2 : (t316 == t317) = true := by simpa using c6))
   clear c6
   by_cases c15 : t316 = true
   rotate_left
   focus
    replace c15 := Bool.eq_false_iff.mpr c15
    subst c15
    rw [if_neg (show ¬ (false = true) by decide)] at H
    replace H := Option.bind_eq_some_iff.mp H
    obtain ⟨t321, A640, H⟩ := H
    replace H : (if t321 = true then ((laws_alive.f k).bind fun t322 => (some t322)) else (some false)) = some r := H
    have A64 := mk_ A640
    clear A640
    by_cases c65 : t321 = true
    rotate_left
    focus
     replace c65 := Bool.eq_false_iff.mpr c65
     subst c65
     have H1 : (some false) = some r := by rw [if_neg (show ¬ (false = true) by decide)] at H; exact H
     clear H
     have H := H1
     clear H1
     obtain rfl := Option.some.inj H
    rotate_left
    focus
     subst c65
     have H1 : ((laws_alive.f k).bind fun t322 => (some t322)) = some r := by rw [if_pos rfl] at H; exact H
     clear H
     have H := H1
     clear H1
     replace H := Option.bind_eq_some_iff.mp H
     obtain ⟨t322, A660, H⟩ := H
     replace H : (some t322) = some r := H
     have A66 := mk_ A660
     clear A660
     obtain rfl := Option.some.inj H
    rotate_left
   rotate_left 2
   focus
    subst c15
    rw [if_pos rfl] at H
    by_cases c16 : (wrap64 ((t309.length : Int) + (t312.length : Int))) ≤ t308
    rotate_left
    focus
     rw [if_neg c16] at H
     have c16b0 : decide ((wrap64 ((t309.length : Int) + (t312.length : Int))) ≤ t308) = false := decide_eq_false c16
     clear c16
     obtain rfl := Option.some.inj H
    rotate_left
    focus
     rw [if_pos c16] at H
     have c16b0 : decide ((wrap64 ((t309.length : Int) + (t312.length : Int))) ≤ t308) = true := decide_eq_true c16
     clear c16
     replace H := Option.bind_eq_some_iff.mp H
     obtain ⟨t318, A170, H⟩ := H
     (try dsimp only at H)
     have A17 := mk_ A170
     clear A170
     by_cases c18 : t318 = true
     rotate_left
     focus
      replace c18 := Bool.eq_false_iff.mpr c18
      subst c18
      have H1 : (some false) = some r := by rw [if_neg (show ¬ (false = true) by decide)] at H; exact H
      clear H
      have H := H1
      clear H1
      obtain rfl := Option.some.inj H
     rotate_left
     focus
      subst c18
      rw [if_pos rfl] at H
      replace H := Option.bind_eq_some_iff.mp H
      obtain ⟨t319, A190, H⟩ := H
      replace H : (if t319 = true then ((laws_alive.f k).bind fun t320 => (some t320)) else (some false)) = some r := H
      have A19 := mk_ A190
      clear A190
      by_cases c20 : t319 = true
      rotate_left
      focus
       replace c20 := Bool.eq_false_iff.mpr c20
       subst c20
       have H1 : (some false) = some r := by rw [if_neg (show ¬ (false = true) by decide)] at H; exact H
       clear H
       have H := H1
       clear H1
       obtain rfl := Option.some.inj H
      rotate_left
      focus
       subst c20
       have H1 : ((laws_alive.f k).bind fun t320 => (some t320)) = some r := by rw [if_pos rfl] at H; exact H
       clear H
       have H := H1
       clear H1
       replace H := Option.bind_eq_some_iff.mp H
       obtain ⟨t320, A210, H⟩ := H
       replace H : (some t320) = some r := H
       have A21 := mk_ A210
       clear A210
       obtain rfl := Option.some.inj H
      rotate_left
     rotate_left 2
    rotate_left 3
   rotate_left 4
  rotate_left 6
 rotate_left 7
 all_goals
  go_enter Try.func7, Try.ntmps7
  go_wp2_with (first | ((with_reducible refine gate_callee (f := 31) rfl ?_); refine goesL_ (some 9) rfl rfl Try.func31 (by kernel_rfl) rfl #[.slice A0 l0.length c0] rfl (by (try simp only [lm_, lo_, ln_]); try rfl) ?_; (with_reducible refine (spec_DrawEarOk.calls k _ _ l0 t307 t308 t309 t312 _ ?side1 ?side2 A3.out).mono ?_); (case side1 => repeat (first | exact HR0.out | (with_reducible refine Kd.C_alloc ?_ _) | (with_reducible refine Kd.C_drewN ?_ _) | (with_reducible refine Kd.C_drew ?_))); (case side2 => exact HC0.out); rintro e w38440 ⟨v38441, v38442, rfl, ho38443, ho38444, hb⟩; refine ⟨_, rfl, ?_⟩; have HO311 := mk_ (Kd.R_lower ho38443 (below_size (ub_ HB.out))); have HO314 := mk_ (Kd.Q_lower ho38444 (below_size (ub_ HB.out))); replace HB := mk_ (below_step (ub_ HB.out) hb)) | ((with_reducible refine gate_dst (N := 3) rfl ?_); refine box_event ?hg (N := 3) ?hd (cs := #[.int .i64 0, .int .i64 0, .slice none 0 0, .slice none 0 0]) (t := 59) ?hr ?_; (case hd => rfl); (case hg => rfl); (case hr => first | (go_simp; done) | (go_simp; rfl)); intro gb38480 hg w38481 hbox hb; replace HO311 := mk_ (Kd.R_below (Kd.ur_ HO311.out) hb); replace HO314 := mk_ (Kd.Q_below (by (with_reducible repeat (first | apply Kd.Q_alloc | apply Kd.Q_drewN | apply Kd.Q_drew)); exact HO314.out) hb); have n2_ := mk_ (below_step (ub_ HB.out) hb); have BK315 := mk_ (hbox); have GW315 := mk_ ((by rw [hg]; exact (below_size (ub_ HB.out)) : w.heap.size ≤ gb38480)); have GE315 := ge_ ((by rw [hg]; exact (below_size (ub_ HB.out)) : w.heap.size ≤ gb38480)); replace HB := n2_; clear n2_; clear hb hbox hg; obtain ⟨_, _, _, _, _, _, _, _⟩ := cells4_ BK315.out; obtain ⟨Ao9370311, co9370311, eo9370311⟩ := Kd.R_slice HO311.out; subst eo9370311; obtain ⟨Ao38482, co38482, eo38482, _⟩ := Kd.Q_slice HO314.out; subst eo38482) | ((with_reducible refine gate_callee (f := 32) rfl ?_); refine goesL_ (some 11) rfl rfl Try.func32 (by kernel_rfl) rfl #[.agg #[.int .i64 t307, .int .i64 t308, .slice Ao9370311 t309.length co9370311, .slice Ao38482 t312.length co38482]] rfl (by (try simp only [lm_, lo_, ln_]); try rfl) ?_; (with_reducible refine (impl_EarOk.calls k t307 t308 _ _ t309 _ _ t312 t316 _ ?side1 ?side2 ?side3 ?side4 A4.out).mono ?_); (case side1 => refine (Kd.R_reads' (e := 5) (base := w.heap.size) (ok := fun k_ => True) (n := t309.length) (c := co9370311) ?_).2.2; exact (by (with_reducible repeat (first | apply Kd.R_alloc | apply Kd.R_drewN | apply Kd.R_drew)); exact (Kd.R_mono (Kd.R_far (p := ⟨gb38480, 3, none⟩) (Kd.R_far (p := ⟨gb38480, 2, none⟩) (Kd.R_far (p := ⟨gb38480, 1, none⟩) (Kd.R_far (p := ⟨gb38480, 0, none⟩) (Kd.R_types HO311.out BK315.out (by decide)) (fun _ hk => hk.2) (.int .i64 t307)) (fun _ hk => hk.2) (.int .i64 t308)) (fun _ hk => hk.2) (.slice Ao9370311 t309.length co9370311)) (fun _ hk => hk.2) (.slice Ao38482 t312.length co38482)) (fun _ h_ => by first | exact h_.1 | simp only [h_, ne_eq, not_false_eq_true, and_self])))); (case side2 => exact (Kd.R_reads' HO311.out).2.1); (case side3 => refine (Kd.Q_reads' (e := 68) (base := w.heap.size) (ok := fun k_ => True) (n := t312.length) (c := co38482) ?_).2.2; exact (by (with_reducible repeat (first | apply Kd.Q_alloc | apply Kd.Q_drewN | apply Kd.Q_drew)); exact (Kd.Q_mono (Kd.Q_far (p := ⟨gb38480, 3, none⟩) (Kd.Q_far (p := ⟨gb38480, 2, none⟩) (Kd.Q_far (p := ⟨gb38480, 1, none⟩) (Kd.Q_far (p := ⟨gb38480, 0, none⟩) (Kd.Q_types HO314.out BK315.out (by decide)) (fun _ hk => hk.2) (.int .i64 t307)) (fun _ hk => hk.2) (.int .i64 t308)) (fun _ hk => hk.2) (.slice Ao9370311 t309.length co9370311)) (fun _ hk => hk.2) (.slice Ao38482 t312.length co38482)) (fun _ h_ => by first | exact h_.1 | simp only [h_, ne_eq, not_false_eq_true, and_self])))); (case side4 => exact (Kd.Q_reads' HO314.out).2.1); rintro e w38520 ⟨rfl, hb⟩; refine ⟨_, rfl, ?_⟩; replace HO311 := mk_ (Kd.R_below (by (with_reducible repeat (first | apply Kd.R_alloc | apply Kd.R_drewN | apply Kd.R_drew)); exact (Kd.R_mono (Kd.R_far (p := ⟨gb38480, 3, none⟩) (Kd.R_far (p := ⟨gb38480, 2, none⟩) (Kd.R_far (p := ⟨gb38480, 1, none⟩) (Kd.R_far (p := ⟨gb38480, 0, none⟩) (Kd.R_types HO311.out BK315.out (by decide)) (fun _ hk => hk.2) (.int .i64 t307)) (fun _ hk => hk.2) (.int .i64 t308)) (fun _ hk => hk.2) (.slice Ao9370311 t309.length co9370311)) (fun _ hk => hk.2) (.slice Ao38482 t312.length co38482)) (fun _ h_ => by first | exact h_.1 | simp only [h_, ne_eq, not_false_eq_true, and_self]))) hb); replace HO314 := mk_ (Kd.Q_below (by (with_reducible repeat (first | apply Kd.Q_alloc | apply Kd.Q_drewN | apply Kd.Q_drew)); exact (Kd.Q_mono (Kd.Q_far (p := ⟨gb38480, 3, none⟩) (Kd.Q_far (p := ⟨gb38480, 2, none⟩) (Kd.Q_far (p := ⟨gb38480, 1, none⟩) (Kd.Q_far (p := ⟨gb38480, 0, none⟩) (Kd.Q_types HO314.out BK315.out (by decide)) (fun _ hk => hk.2) (.int .i64 t307)) (fun _ hk => hk.2) (.int .i64 t308)) (fun _ hk => hk.2) (.slice Ao9370311 t309.length co9370311)) (fun _ hk => hk.2) (.slice Ao38482 t312.length co38482)) (fun _ h_ => by first | exact h_.1 | simp only [h_, ne_eq, not_false_eq_true, and_self]))) hb); replace BK315 := mk_ (blk_below (g := gb38480) (o := .cells #[.int .i64 t307, .int .i64 t308, .slice Ao9370311 t309.length co9370311, .slice Ao38482 t312.length co38482] 59 (0, 0)) (by (with_reducible repeat (first | refine bn_ ?_ _ | refine bw_ ?_ | refine ba_ ?_ _)); refine blk_put (cs := #[.int .i64 t307, .int .i64 t308, .slice Ao9370311 t309.length co9370311, .slice none 0 0]) ?_ 3 _ rfl; (with_reducible repeat (first | refine bn_ ?_ _ | refine bw_ ?_ | refine ba_ ?_ _)); refine blk_put (cs := #[.int .i64 t307, .int .i64 t308, .slice none 0 0, .slice none 0 0]) ?_ 2 _ rfl; (with_reducible repeat (first | refine bn_ ?_ _ | refine bw_ ?_ | refine ba_ ?_ _)); refine blk_put (cs := #[.int .i64 t307, .int .i64 0, .slice none 0 0, .slice none 0 0]) ?_ 1 _ rfl; (with_reducible repeat (first | refine bn_ ?_ _ | refine bw_ ?_ | refine ba_ ?_ _)); refine blk_put (cs := #[.int .i64 0, .int .i64 0, .slice none 0 0, .slice none 0 0]) ?_ 0 _ rfl; (with_reducible repeat (first | refine bn_ ?_ _ | refine bw_ ?_ | refine ba_ ?_ _)); exact BK315.out) hb); replace HB := mk_ (below_step (us_ HB.out) hb); obtain ⟨_, _, _, _, _, _, _, _⟩ := cells4_ BK315.out) | ((with_reducible refine gate_callee (f := 32) rfl ?_); have hA_ := A4.out; refine goesL_ (some 11) rfl rfl Try.func32 (by kernel_rfl) rfl #[.agg #[.int .i64 t307, .int .i64 t308, .slice Ao9370311 t309.length co9370311, .slice Ao38482 t312.length co38482]] rfl (by (try simp only [lm_, lo_, ln_]); try rfl) ?_; (with_reducible refine (impl_EarOk.calls k t307 t308 _ _ t309 _ _ t312 false _ ?side1 ?side2 ?side3 ?side4 A4.out).mono ?_); (case side1 => refine (Kd.R_reads' (e := 5) (base := w.heap.size) (ok := fun k_ => True) (n := t309.length) (c := co9370311) ?_).2.2; exact (by (with_reducible repeat (first | apply Kd.R_alloc | apply Kd.R_drewN | apply Kd.R_drew)); exact (Kd.R_mono (Kd.R_far (p := ⟨gb38480, 3, none⟩) (Kd.R_far (p := ⟨gb38480, 2, none⟩) (Kd.R_far (p := ⟨gb38480, 1, none⟩) (Kd.R_far (p := ⟨gb38480, 0, none⟩) (Kd.R_types HO311.out BK315.out (by decide)) (fun _ hk => hk.2) (.int .i64 t307)) (fun _ hk => hk.2) (.int .i64 t308)) (fun _ hk => hk.2) (.slice Ao9370311 t309.length co9370311)) (fun _ hk => hk.2) (.slice Ao38482 t312.length co38482)) (fun _ h_ => by first | exact h_.1 | simp only [h_, ne_eq, not_false_eq_true, and_self])))); (case side2 => exact (Kd.R_reads' HO311.out).2.1); (case side3 => refine (Kd.Q_reads' (e := 68) (base := w.heap.size) (ok := fun k_ => True) (n := t312.length) (c := co38482) ?_).2.2; exact (by (with_reducible repeat (first | apply Kd.Q_alloc | apply Kd.Q_drewN | apply Kd.Q_drew)); exact (Kd.Q_mono (Kd.Q_far (p := ⟨gb38480, 3, none⟩) (Kd.Q_far (p := ⟨gb38480, 2, none⟩) (Kd.Q_far (p := ⟨gb38480, 1, none⟩) (Kd.Q_far (p := ⟨gb38480, 0, none⟩) (Kd.Q_types HO314.out BK315.out (by decide)) (fun _ hk => hk.2) (.int .i64 t307)) (fun _ hk => hk.2) (.int .i64 t308)) (fun _ hk => hk.2) (.slice Ao9370311 t309.length co9370311)) (fun _ hk => hk.2) (.slice Ao38482 t312.length co38482)) (fun _ h_ => by first | exact h_.1 | simp only [h_, ne_eq, not_false_eq_true, and_self])))); (case side4 => exact (Kd.Q_reads' HO314.out).2.1); rintro e w38520 ⟨rfl, hb⟩; refine ⟨_, rfl, ?_⟩; replace HO311 := mk_ (Kd.R_below (by (with_reducible repeat (first | apply Kd.R_alloc | apply Kd.R_drewN | apply Kd.R_drew)); exact (Kd.R_mono (Kd.R_far (p := ⟨gb38480, 3, none⟩) (Kd.R_far (p := ⟨gb38480, 2, none⟩) (Kd.R_far (p := ⟨gb38480, 1, none⟩) (Kd.R_far (p := ⟨gb38480, 0, none⟩) (Kd.R_types HO311.out BK315.out (by decide)) (fun _ hk => hk.2) (.int .i64 t307)) (fun _ hk => hk.2) (.int .i64 t308)) (fun _ hk => hk.2) (.slice Ao9370311 t309.length co9370311)) (fun _ hk => hk.2) (.slice Ao38482 t312.length co38482)) (fun _ h_ => by first | exact h_.1 | simp only [h_, ne_eq, not_false_eq_true, and_self]))) hb); replace HO314 := mk_ (Kd.Q_below (by (with_reducible repeat (first | apply Kd.Q_alloc | apply Kd.Q_drewN | apply Kd.Q_drew)); exact (Kd.Q_mono (Kd.Q_far (p := ⟨gb38480, 3, none⟩) (Kd.Q_far (p := ⟨gb38480, 2, none⟩) (Kd.Q_far (p := ⟨gb38480, 1, none⟩) (Kd.Q_far (p := ⟨gb38480, 0, none⟩) (Kd.Q_types HO314.out BK315.out (by decide)) (fun _ hk => hk.2) (.int .i64 t307)) (fun _ hk => hk.2) (.int .i64 t308)) (fun _ hk => hk.2) (.slice Ao9370311 t309.length co9370311)) (fun _ hk => hk.2) (.slice Ao38482 t312.length co38482)) (fun _ h_ => by first | exact h_.1 | simp only [h_, ne_eq, not_false_eq_true, and_self]))) hb); replace BK315 := mk_ (blk_below (g := gb38480) (o := .cells #[.int .i64 t307, .int .i64 t308, .slice Ao9370311 t309.length co9370311, .slice Ao38482 t312.length co38482] 59 (0, 0)) (by (with_reducible repeat (first | refine bn_ ?_ _ | refine bw_ ?_ | refine ba_ ?_ _)); refine blk_put (cs := #[.int .i64 t307, .int .i64 t308, .slice Ao9370311 t309.length co9370311, .slice none 0 0]) ?_ 3 _ rfl; (with_reducible repeat (first | refine bn_ ?_ _ | refine bw_ ?_ | refine ba_ ?_ _)); refine blk_put (cs := #[.int .i64 t307, .int .i64 t308, .slice none 0 0, .slice none 0 0]) ?_ 2 _ rfl; (with_reducible repeat (first | refine bn_ ?_ _ | refine bw_ ?_ | refine ba_ ?_ _)); refine blk_put (cs := #[.int .i64 t307, .int .i64 0, .slice none 0 0, .slice none 0 0]) ?_ 1 _ rfl; (with_reducible repeat (first | refine bn_ ?_ _ | refine bw_ ?_ | refine ba_ ?_ _)); refine blk_put (cs := #[.int .i64 0, .int .i64 0, .slice none 0 0, .slice none 0 0]) ?_ 0 _ rfl; (with_reducible repeat (first | refine bn_ ?_ _ | refine bw_ ?_ | refine ba_ ?_ _)); exact BK315.out) hb); replace HB := mk_ (below_step (us_ HB.out) hb); obtain ⟨_, _, _, _, _, _, _, _⟩ := cells4_ BK315.out; clear hA_ A4) | ((with_reducible refine gate_callee (f := 32) rfl ?_); have hA_ := A4.out; refine goesL_ (some 11) rfl rfl Try.func32 (by kernel_rfl) rfl #[.agg #[.int .i64 t307, .int .i64 t308, .slice Ao9370311 t309.length co9370311, .slice Ao38482 t312.length co38482]] rfl (by (try simp only [lm_, lo_, ln_]); try rfl) ?_; (with_reducible refine (impl_EarOk.calls k t307 t308 _ _ t309 _ _ t312 true _ ?side1 ?side2 ?side3 ?side4 A4.out).mono ?_); (case side1 => refine (Kd.R_reads' (e := 5) (base := w.heap.size) (ok := fun k_ => True) (n := t309.length) (c := co9370311) ?_).2.2; exact (by (with_reducible repeat (first | apply Kd.R_alloc | apply Kd.R_drewN | apply Kd.R_drew)); exact (Kd.R_mono (Kd.R_far (p := ⟨gb38480, 3, none⟩) (Kd.R_far (p := ⟨gb38480, 2, none⟩) (Kd.R_far (p := ⟨gb38480, 1, none⟩) (Kd.R_far (p := ⟨gb38480, 0, none⟩) (Kd.R_types HO311.out BK315.out (by decide)) (fun _ hk => hk.2) (.int .i64 t307)) (fun _ hk => hk.2) (.int .i64 t308)) (fun _ hk => hk.2) (.slice Ao9370311 t309.length co9370311)) (fun _ hk => hk.2) (.slice Ao38482 t312.length co38482)) (fun _ h_ => by first | exact h_.1 | simp only [h_, ne_eq, not_false_eq_true, and_self])))); (case side2 => exact (Kd.R_reads' HO311.out).2.1); (case side3 => refine (Kd.Q_reads' (e := 68) (base := w.heap.size) (ok := fun k_ => True) (n := t312.length) (c := co38482) ?_).2.2; exact (by (with_reducible repeat (first | apply Kd.Q_alloc | apply Kd.Q_drewN | apply Kd.Q_drew)); exact (Kd.Q_mono (Kd.Q_far (p := ⟨gb38480, 3, none⟩) (Kd.Q_far (p := ⟨gb38480, 2, none⟩) (Kd.Q_far (p := ⟨gb38480, 1, none⟩) (Kd.Q_far (p := ⟨gb38480, 0, none⟩) (Kd.Q_types HO314.out BK315.out (by decide)) (fun _ hk => hk.2) (.int .i64 t307)) (fun _ hk => hk.2) (.int .i64 t308)) (fun _ hk => hk.2) (.slice Ao9370311 t309.length co9370311)) (fun _ hk => hk.2) (.slice Ao38482 t312.length co38482)) (fun _ h_ => by first | exact h_.1 | simp only [h_, ne_eq, not_false_eq_true, and_self])))); (case side4 => exact (Kd.Q_reads' HO314.out).2.1); rintro e w38520 ⟨rfl, hb⟩; refine ⟨_, rfl, ?_⟩; replace HO311 := mk_ (Kd.R_below (by (with_reducible repeat (first | apply Kd.R_alloc | apply Kd.R_drewN | apply Kd.R_drew)); exact (Kd.R_mono (Kd.R_far (p := ⟨gb38480, 3, none⟩) (Kd.R_far (p := ⟨gb38480, 2, none⟩) (Kd.R_far (p := ⟨gb38480, 1, none⟩) (Kd.R_far (p := ⟨gb38480, 0, none⟩) (Kd.R_types HO311.out BK315.out (by decide)) (fun _ hk => hk.2) (.int .i64 t307)) (fun _ hk => hk.2) (.int .i64 t308)) (fun _ hk => hk.2) (.slice Ao9370311 t309.length co9370311)) (fun _ hk => hk.2) (.slice Ao38482 t312.length co38482)) (fun _ h_ => by first | exact h_.1 | simp only [h_, ne_eq, not_false_eq_true, and_self]))) hb); replace HO314 := mk_ (Kd.Q_below (by (with_reducible repeat (first | apply Kd.Q_alloc | apply Kd.Q_drewN | apply Kd.Q_drew)); exact (Kd.Q_mono (Kd.Q_far (p := ⟨gb38480, 3, none⟩) (Kd.Q_far (p := ⟨gb38480, 2, none⟩) (Kd.Q_far (p := ⟨gb38480, 1, none⟩) (Kd.Q_far (p := ⟨gb38480, 0, none⟩) (Kd.Q_types HO314.out BK315.out (by decide)) (fun _ hk => hk.2) (.int .i64 t307)) (fun _ hk => hk.2) (.int .i64 t308)) (fun _ hk => hk.2) (.slice Ao9370311 t309.length co9370311)) (fun _ hk => hk.2) (.slice Ao38482 t312.length co38482)) (fun _ h_ => by first | exact h_.1 | simp only [h_, ne_eq, not_false_eq_true, and_self]))) hb); replace BK315 := mk_ (blk_below (g := gb38480) (o := .cells #[.int .i64 t307, .int .i64 t308, .slice Ao9370311 t309.length co9370311, .slice Ao38482 t312.length co38482] 59 (0, 0)) (by (with_reducible repeat (first | refine bn_ ?_ _ | refine bw_ ?_ | refine ba_ ?_ _)); refine blk_put (cs := #[.int .i64 t307, .int .i64 t308, .slice Ao9370311 t309.length co9370311, .slice none 0 0]) ?_ 3 _ rfl; (with_reducible repeat (first | refine bn_ ?_ _ | refine bw_ ?_ | refine ba_ ?_ _)); refine blk_put (cs := #[.int .i64 t307, .int .i64 t308, .slice none 0 0, .slice none 0 0]) ?_ 2 _ rfl; (with_reducible repeat (first | refine bn_ ?_ _ | refine bw_ ?_ | refine ba_ ?_ _)); refine blk_put (cs := #[.int .i64 t307, .int .i64 0, .slice none 0 0, .slice none 0 0]) ?_ 1 _ rfl; (with_reducible repeat (first | refine bn_ ?_ _ | refine bw_ ?_ | refine ba_ ?_ _)); refine blk_put (cs := #[.int .i64 0, .int .i64 0, .slice none 0 0, .slice none 0 0]) ?_ 0 _ rfl; (with_reducible repeat (first | refine bn_ ?_ _ | refine bw_ ?_ | refine ba_ ?_ _)); exact BK315.out) hb); replace HB := mk_ (below_step (us_ HB.out) hb); obtain ⟨_, _, _, _, _, _, _, _⟩ := cells4_ BK315.out; clear hA_ A4) | ((with_reducible refine gate_callee (f := 33) rfl ?_); refine goesL_ (some 14) rfl rfl Try.func33 (by kernel_rfl) rfl #[.agg #[.int .i64 t307, .int .i64 t308, .slice Ao9370311 t309.length co9370311, .slice Ao38482 t312.length co38482]] rfl (by (try simp only [lm_, lo_, ln_]); try rfl) ?_; (with_reducible refine (spec_EarOk.calls k t307 t308 _ _ t309 _ _ t312 t317 _ ?side1 ?side2 ?side3 ?side4 A5.out).mono ?_); (case side1 => repeat (first | exact (Kd.R_reads' HO311.out).2.2 | (with_reducible refine Kd.C_alloc ?_ _) | (with_reducible refine Kd.C_drewN ?_ _) | (with_reducible refine Kd.C_drew ?_))); (case side2 => exact (Kd.R_reads' HO311.out).2.1); (case side3 => repeat (first | exact (Kd.Q_reads' HO314.out).2.2 | (with_reducible refine Kd.C_alloc ?_ _) | (with_reducible refine Kd.C_drewN ?_ _) | (with_reducible refine Kd.C_drew ?_))); (case side4 => exact (Kd.Q_reads' HO314.out).2.1); rintro e w38560 ⟨rfl, hb⟩; refine ⟨_, rfl, ?_⟩; replace HO311 := mk_ (Kd.R_below (Kd.ur_ HO311.out) hb); replace HO314 := mk_ (Kd.Q_below (by (with_reducible repeat (first | apply Kd.Q_alloc | apply Kd.Q_drewN | apply Kd.Q_drew)); exact HO314.out) hb); replace BK315 := mk_ (blk_below (u_ BK315.out) hb); replace HB := mk_ (below_step (us_ HB.out) hb); obtain ⟨_, _, _, _, _, _, _, _⟩ := cells4_ BK315.out) | (go_at_call 32; have hA_ := A17.out; (refine (impl_EarOk.calls k t307 t308 _ _ t309 _ _ ([] : List (S68)) true _ ?side1 ?side2 ?side3 ?side4 A17.out).mono ?_); (case side1 => repeat (first | exact (Kd.R_reads' HO311.out).2.2 | (with_reducible refine Kd.C_alloc ?_ _) | (with_reducible refine Kd.C_drewN ?_ _) | (with_reducible refine Kd.C_drew ?_))); (case side2 => exact (Kd.R_reads' HO311.out).2.1); (case side3 => exact Kd.C_nil _ _); (case side4 => exact Nat.le_refl _); rintro e w38760 ⟨rfl, hb⟩; replace HO311 := mk_ (Kd.R_below (Kd.ur_ HO311.out) hb); replace HO314 := mk_ (Kd.Q_below (by (with_reducible repeat (first | apply Kd.Q_alloc | apply Kd.Q_drewN | apply Kd.Q_drew)); exact HO314.out) hb); replace BK315 := mk_ (blk_below (u_ BK315.out) hb); replace HB := mk_ (below_step (us_ HB.out) hb); clear hA_ A17) | (go_at_call 32; have hA_ := A17.out; (refine (impl_EarOk.calls k t307 t308 _ _ t309 _ _ ([] : List (S68)) false _ ?side1 ?side2 ?side3 ?side4 A17.out).mono ?_); (case side1 => repeat (first | exact (Kd.R_reads' HO311.out).2.2 | (with_reducible refine Kd.C_alloc ?_ _) | (with_reducible refine Kd.C_drewN ?_ _) | (with_reducible refine Kd.C_drew ?_))); (case side2 => exact (Kd.R_reads' HO311.out).2.1); (case side3 => exact Kd.C_nil _ _); (case side4 => exact Nat.le_refl _); rintro e w38720 ⟨rfl, hb⟩; replace HO311 := mk_ (Kd.R_below (Kd.ur_ HO311.out) hb); replace HO314 := mk_ (Kd.Q_below (by (with_reducible repeat (first | apply Kd.Q_alloc | apply Kd.Q_drewN | apply Kd.Q_drew)); exact HO314.out) hb); replace BK315 := mk_ (blk_below (u_ BK315.out) hb); replace HB := mk_ (below_step (us_ HB.out) hb); clear hA_ A17) | (go_at_call 32; have hA_ := A64.out; (refine (impl_EarOk.calls k 0 1 _ _ ([] : List Int) _ _ ([] : List (S68)) false _ ?side1 ?side2 ?side3 ?side4 A64.out).mono ?_); (case side1 => exact Kd.C_nil _ _); (case side2 => exact Nat.le_refl _); (case side3 => exact Kd.C_nil _ _); (case side4 => exact Nat.le_refl _); rintro e w38600 ⟨rfl, hb⟩; replace HO311 := mk_ (Kd.R_below (Kd.ur_ HO311.out) hb); replace HO314 := mk_ (Kd.Q_below (by (with_reducible repeat (first | apply Kd.Q_alloc | apply Kd.Q_drewN | apply Kd.Q_drew)); exact HO314.out) hb); replace BK315 := mk_ (blk_below (u_ BK315.out) hb); replace HB := mk_ (below_step (us_ HB.out) hb); clear hA_ A64) | (go_at_call 32; have hA_ := A19.out; (refine (impl_EarOk.calls k 0 1 _ _ ([] : List Int) _ _ ([] : List (S68)) false _ ?side1 ?side2 ?side3 ?side4 A19.out).mono ?_); (case side1 => exact Kd.C_nil _ _); (case side2 => exact Nat.le_refl _); (case side3 => exact Kd.C_nil _ _); (case side4 => exact Nat.le_refl _); rintro e w38600 ⟨rfl, hb⟩; replace HO311 := mk_ (Kd.R_below (Kd.ur_ HO311.out) hb); replace HO314 := mk_ (Kd.Q_below (by (with_reducible repeat (first | apply Kd.Q_alloc | apply Kd.Q_drewN | apply Kd.Q_drew)); exact HO314.out) hb); replace BK315 := mk_ (blk_below (u_ BK315.out) hb); replace HB := mk_ (below_step (us_ HB.out) hb); clear hA_ A19) | (go_at_call 32; have hA_ := A64.out; (refine (impl_EarOk.calls k 0 1 _ _ ([] : List Int) _ _ ([] : List (S68)) true _ ?side1 ?side2 ?side3 ?side4 A64.out).mono ?_); (case side1 => exact Kd.C_nil _ _); (case side2 => exact Nat.le_refl _); (case side3 => exact Kd.C_nil _ _); (case side4 => exact Nat.le_refl _); rintro e w38640 ⟨rfl, hb⟩; replace HO311 := mk_ (Kd.R_below (Kd.ur_ HO311.out) hb); replace HO314 := mk_ (Kd.Q_below (by (with_reducible repeat (first | apply Kd.Q_alloc | apply Kd.Q_drewN | apply Kd.Q_drew)); exact HO314.out) hb); replace BK315 := mk_ (blk_below (u_ BK315.out) hb); replace HB := mk_ (below_step (us_ HB.out) hb); clear hA_ A64) | (go_at_call 32; have hA_ := A19.out; (refine (impl_EarOk.calls k 0 1 _ _ ([] : List Int) _ _ ([] : List (S68)) true _ ?side1 ?side2 ?side3 ?side4 A19.out).mono ?_); (case side1 => exact Kd.C_nil _ _); (case side2 => exact Nat.le_refl _); (case side3 => exact Kd.C_nil _ _); (case side4 => exact Nat.le_refl _); rintro e w38640 ⟨rfl, hb⟩; replace HO311 := mk_ (Kd.R_below (Kd.ur_ HO311.out) hb); replace HO314 := mk_ (Kd.Q_below (by (with_reducible repeat (first | apply Kd.Q_alloc | apply Kd.Q_drewN | apply Kd.Q_drew)); exact HO314.out) hb); replace BK315 := mk_ (blk_below (u_ BK315.out) hb); replace HB := mk_ (below_step (us_ HB.out) hb); clear hA_ A19) | (go_at_call 13; (with_reducible refine (laws_alive.calls k  t322 _ A66.out).mono ?_); rintro e w38680 ⟨rfl, hb⟩; replace HO311 := mk_ (Kd.R_below (Kd.ur_ HO311.out) hb); replace HO314 := mk_ (Kd.Q_below (by (with_reducible repeat (first | apply Kd.Q_alloc | apply Kd.Q_drewN | apply Kd.Q_drew)); exact HO314.out) hb); replace BK315 := mk_ (blk_below (u_ BK315.out) hb); replace HB := mk_ (below_step (us_ HB.out) hb)) | (go_at_call 13; (with_reducible refine (laws_alive.calls k  t320 _ A21.out).mono ?_); rintro e w38800 ⟨rfl, hb⟩; replace HO311 := mk_ (Kd.R_below (Kd.ur_ HO311.out) hb); replace HO314 := mk_ (Kd.Q_below (by (with_reducible repeat (first | apply Kd.Q_alloc | apply Kd.Q_drewN | apply Kd.Q_drew)); exact HO314.out) hb); replace BK315 := mk_ (blk_below (u_ BK315.out) hb); replace HB := mk_ (below_step (us_ HB.out) hb)) )
  go_ret
 ·exact ⟨by first | rfl | (simp [errW_none, errW_some] <;> rfl) | (simp [*, errW_none, errW_some] <;> rfl), by repeat (first | (with_reducible first | exact HB.out | apply na_ | apply nn_ | apply nw_) | exact HB.out)⟩
 all_goals
  exact ⟨by first | rfl | (simp [errW_none, errW_some] <;> rfl) | (simp [*, errW_none, errW_some] <;> rfl), us_ HB.out⟩

/-- THE ONE PURE STATEMENT of laws_FnEarOk: yours. -/
def laws_FnEarOk.Pure : Prop := ∀ (l0 : List Int), l0.length ≤ maxLen → l0.length * 1 ≤ 140737488351232 → (∀ x ∈ l0, (Lit.int .u8 x).wf = true) → ∃ k, laws_FnEarOk.f k l0 = some true
theorem laws_FnEarOk.walk (P : laws_FnEarOk.Pure) (a0 : Option Addr) (len0 cap0 : Nat) (z0 : List Int) (w : World) (w0 : (a0 = none ∧ len0 = 0 ∧ cap0 = 0 ∧ z0 = []) ∨ ∃ x, a0 = some x ∧ len0 ≤ cap0 ∧ cap0 ≤ maxLen ∧ z0.length = cap0 ∧ (∀ i, i < z0.length → w.cell? (x.add i) = some (.int .u8 (z0.getD i 0))) ∧ ∀ n ∈ z0, (Lit.int .u8 n).wf = true) (y0 : len0 * 1 ≤ 140737488351232) :
  Calls Try.prog 7 #[.slice a0 len0 cap0] w fun e w' => e = .returned (.bool true) ∧ Below w.heap.size w w' := by
 obtain ⟨l0, rfl, hr0, hm0, hw0, hc0⟩ := ReadsInt.ofRowC w0
 obtain ⟨k, h⟩ := P l0 hm0 y0 hw0
 refine (laws_FnEarOk.calls k _ _ l0 true w (Kd.C_of_reads (d := (0 : Int)) (h1 := fun _ => rfl) hr0) hc0 h).mono ?_
 rintro e w' ⟨rfl, hd⟩
 exact ⟨rfl, hd⟩

end Go.Proofs.Ytkkibccnpkbbjab.MFnEarOk
