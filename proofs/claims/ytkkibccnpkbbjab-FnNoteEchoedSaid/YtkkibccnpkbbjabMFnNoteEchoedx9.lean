/- Functions that the law FnNoteEchoed reaches, each with the proof that the machine's call comes to just its answer; no conditions but those that each theorem states. Printed by a program of this session over the kit's print. -/
import Derived.Test.YtkkibccnpkbbjabMFnNoteEchoedx0
import Derived.Test.YtkkibccnpkbbjabMFnNoteEchoedx1
import Derived.Test.YtkkibccnpkbbjabMFnNoteEchoedx2
import Derived.Test.YtkkibccnpkbbjabMFnNoteEchoedx6
import Derived.Test.YtkkibccnpkbbjabMFnNoteEchoedx8
namespace Go.Proofs.Ytkkibccnpkbbjab.MFnNoteEchoed
open Go.RowKit Go.Proofs.YtkkibccnpkbbjabV.PrintWords Go.Proofs.YtkkibccnpkbbjabV.PrintLast Go.Proofs.YtkkibccnpkbbjabV.PrintMore
attribute [local go_sem] max2_int min2_int max_two min_two max_three min_three max_four min_four   -- for this text's walks alone
set_option linter.unusedVariables false
set_option linter.unusedSimpArgs false

/-! ### spec_PacketOk: function 60 -/
def spec_PacketOk.f (a0_0 : Int) (a0_1 : Int) (a0_2 : Int) (a0_3 : Int) (a0_4 : Int) (a0_5 : Int) (a0_6 : Bool) (a0_7 : Bool) (l0_8 : List Int) : Option (Bool) := (spec_l1In.f a0_0 0 65535).bind fun t382 => (if t382 = true then ((spec_l1In.f a0_1 0 65535).bind fun t383 => (if t383 = true then ((spec_l1In.f a0_2 0 255).bind fun t384 => (if t384 = true then ((spec_l1In.f a0_3 0 255).bind fun t385 => (if t385 = true then ((spec_l1In.f a0_4 0 255).bind fun t386 => (if t386 = true then ((spec_l1In.f a0_5 0 255).bind fun t387 => (if t387 = true then (if (l0_8.length : Int) ≤ 48 then (if a0_6 = true then (if (l0_8.length : Int) > 0 then (if a0_7 = true then (if a0_5 = 0 then (some (!a0_6)) else (some false)) else (some true)) else (some false)) else (if a0_7 = true then (if a0_5 = 0 then (some (!a0_6)) else (some false)) else (some true))) else (some false)) else (some false))) else (some false))) else (some false))) else (some false))) else (some false))) else (some false))
set_option maxHeartbeats 8000000 in
set_option maxRecDepth 100000 in
theorem spec_PacketOk.calls (a0_0 : Int) (a0_1 : Int) (a0_2 : Int) (a0_3 : Int) (a0_4 : Int) (a0_5 : Int) (a0_6 : Bool) (a0_7 : Bool) (A0_8 : Option Addr) (c0_8 : Nat) (l0_8 : List Int) (r : Bool) (w : World) (hr0_8 : Kd.C (Kd.int .u8) w A0_8 l0_8.length l0_8) (hc0_8 : l0_8.length ≤ c0_8) (h : spec_PacketOk.f a0_0 a0_1 a0_2 a0_3 a0_4 a0_5 a0_6 a0_7 l0_8 = some r) :
  Calls Try.prog 60 #[.agg #[.int .i64 a0_0, .int .i64 a0_1, .int .i64 a0_2, .int .i64 a0_3, .int .i64 a0_4, .int .i64 a0_5, .bool a0_6, .bool a0_7, .slice A0_8 l0_8.length c0_8]] w fun e w' => e = .returned (.bool r) ∧ Below w.heap.size w w' := by
 have hu37 := Try.underlying37
 have HR0_8 := mk_ hr0_8
 have HC0_8 := mk_ hc0_8
 clear hr0_8 hc0_8
 have HB := mk_ (Below.refl w.heap.size w)
 have H := h
 unfold spec_PacketOk.f at H
 clear h
 replace H := Option.bind_eq_some_iff.mp H
 obtain ⟨t382, A20, H⟩ := H
 (try dsimp only at H)
 have A2 := mk_ A20
 clear A20
 by_cases c3 : t382 = true
 rotate_left
 focus
  replace c3 := Bool.eq_false_iff.mpr c3
  subst c3
  have H1 : (some false) = some r := by rw [if_neg (show ¬ (false = true) by decide)] at H; exact H
  clear H
  have H := H1
  clear H1
  obtain rfl := Option.some.inj H
 rotate_left
 focus
  subst c3
  rw [if_pos rfl] at H
  replace H := Option.bind_eq_some_iff.mp H
  obtain ⟨t383, A40, H⟩ := H
  (try dsimp only at H)
  have A4 := mk_ A40
  clear A40
  by_cases c5 : t383 = true
  rotate_left
  focus
   replace c5 := Bool.eq_false_iff.mpr c5
   subst c5
   have H1 : (some false) = some r := by rw [if_neg (show ¬ (false = true) by decide)] at H; exact H
   clear H
   have H := H1
   clear H1
   obtain rfl := Option.some.inj H
  rotate_left
  focus
   subst c5
   rw [if_pos rfl] at H
   replace H := Option.bind_eq_some_iff.mp H
   obtain ⟨t384, A60, H⟩ := H
   (try dsimp only at H)
   have A6 := mk_ A60
   clear A60
   by_cases c7 : t384 = true
   rotate_left
   focus
    replace c7 := Bool.eq_false_iff.mpr c7
    subst c7
    have H1 : (some false) = some r := by rw [if_neg (show ¬ (false = true) by decide)] at H; exact H
    clear H
    have H := H1
    clear H1
    obtain rfl := Option.some.inj H
   rotate_left
   focus
    subst c7
    rw [if_pos rfl] at H
    replace H := Option.bind_eq_some_iff.mp H
    obtain ⟨t385, A80, H⟩ := H
    (try dsimp only at H)
    have A8 := mk_ A80
    clear A80
    by_cases c9 : t385 = true
    rotate_left
    focus
     replace c9 := Bool.eq_false_iff.mpr c9
     subst c9
     have H1 : (some false) = some r := by rw [if_neg (show ¬ (false = true) by decide)] at H; exact H
     clear H
     have H := H1
     clear H1
     obtain rfl := Option.some.inj H
    rotate_left
    focus
     subst c9
     rw [if_pos rfl] at H
     replace H := Option.bind_eq_some_iff.mp H
     obtain ⟨t386, A100, H⟩ := H
     (try dsimp only at H)
     have A10 := mk_ A100
     clear A100
     by_cases c11 : t386 = true
     rotate_left
     focus
      replace c11 := Bool.eq_false_iff.mpr c11
      subst c11
      have H1 : (some false) = some r := by rw [if_neg (show ¬ (false = true) by decide)] at H; exact H
      clear H
      have H := H1
      clear H1
      obtain rfl := Option.some.inj H
     rotate_left
     focus
      subst c11
      rw [if_pos rfl] at H
      replace H := Option.bind_eq_some_iff.mp H
      obtain ⟨t387, A120, H⟩ := H
      (try dsimp only at H)
      have A12 := mk_ A120
      clear A120
      by_cases c13 : t387 = true
      rotate_left
      focus
       replace c13 := Bool.eq_false_iff.mpr c13
       subst c13
       have H1 : (some false) = some r := by rw [if_neg (show ¬ (false = true) by decide)] at H; exact H
       clear H
       have H := H1
       clear H1
       obtain rfl := Option.some.inj H
      rotate_left
      focus
       subst c13
       rw [if_pos rfl] at H
       by_cases c14 : (l0_8.length : Int) ≤ 48
       rotate_left
       focus
        rw [if_neg c14] at H
        have c14b0 : decide ((l0_8.length : Int) ≤ 48) = false := decide_eq_false c14
        have c14b1 : decide (l0_8.length ≤ 48) = false := decide_eq_false (by omega)
        clear c14
        obtain rfl := Option.some.inj H
       rotate_left
       focus
        rw [if_pos c14] at H
        have c14b0 : decide ((l0_8.length : Int) ≤ 48) = true := decide_eq_true c14
        have c14b1 : decide (l0_8.length ≤ 48) = true := decide_eq_true (by omega)
        clear c14
        by_cases c15 : a0_6 = true
        rotate_left
        focus
         replace c15 := Bool.eq_false_iff.mpr c15
         subst c15
         rw [if_neg (show ¬ (false = true) by decide)] at H
         by_cases c27 : a0_7 = true
         rotate_left
         focus
          replace c27 := Bool.eq_false_iff.mpr c27
          subst c27
          have H1 : (some true) = some r := by rw [if_neg (show ¬ (false = true) by decide)] at H; exact H
          clear H
          have H := H1
          clear H1
          obtain rfl := Option.some.inj H
         rotate_left
         focus
          subst c27
          rw [if_pos rfl] at H
          by_cases c28 : a0_5 = 0
          rotate_left
          focus
           rw [if_neg c28] at H
           have c28b0 : (a0_5 == 0) = false := beq_eq_false_iff_ne.mpr c28
           have c28b1 : (a0_5 != 0) = true := bne_iff_ne.mpr c28
           obtain rfl := Option.some.inj H
          rotate_left
          focus
           rw [if_pos c28] at H
           have c28b0 : (a0_5 == 0) = true := beq_iff_eq.mpr c28
           have c28b1 : (a0_5 != 0) = false := bne_eq_false_iff_eq.mpr c28
           clear c28
           obtain rfl := Option.some.inj H
          rotate_left
         rotate_left 2
        rotate_left 3
        focus
         subst c15
         rw [if_pos rfl] at H
         by_cases c16 : (l0_8.length : Int) > 0
         rotate_left
         focus
          rw [if_neg c16] at H
          have c16b0 : decide (0 < (l0_8.length : Int)) = false := decide_eq_false c16
          have c16b1 : decide (0 < l0_8.length) = false := decide_eq_false (by omega)
          clear c16
          obtain rfl := Option.some.inj H
         rotate_left
         focus
          rw [if_pos c16] at H
          have c16b0 : decide (0 < (l0_8.length : Int)) = true := decide_eq_true c16
          have c16b1 : decide (0 < l0_8.length) = true := decide_eq_true (by omega)
          clear c16
          by_cases c17 : a0_7 = true
          rotate_left
          focus
           replace c17 := Bool.eq_false_iff.mpr c17
           subst c17
           have H1 : (some true) = some r := by rw [if_neg (show ¬ (false = true) by decide)] at H; exact H
           clear H
           have H := H1
           clear H1
           obtain rfl := Option.some.inj H
          rotate_left
          focus
           subst c17
           rw [if_pos rfl] at H
           by_cases c18 : a0_5 = 0
           rotate_left
           focus
            rw [if_neg c18] at H
            have c18b0 : (a0_5 == 0) = false := beq_eq_false_iff_ne.mpr c18
            have c18b1 : (a0_5 != 0) = true := bne_iff_ne.mpr c18
            obtain rfl := Option.some.inj H
           rotate_left
           focus
            rw [if_pos c18] at H
            have c18b0 : (a0_5 == 0) = true := beq_iff_eq.mpr c18
            have c18b1 : (a0_5 != 0) = false := bne_eq_false_iff_eq.mpr c18
            clear c18
            obtain rfl := Option.some.inj H
           rotate_left
          rotate_left 2
         rotate_left 3
        rotate_left 4
       rotate_left 7
      rotate_left 8
     rotate_left 9
    rotate_left 10
   rotate_left 11
  rotate_left 12
 rotate_left 13
 all_goals
  go_enter Try.func60, Try.ntmps60
 have z32_ := trivial
 rotate_left
 have z32_ := trivial
 rotate_left
 have z32_ := trivial
 rotate_left
 have z32_ := trivial
 rotate_left
 have z32_ := trivial
 rotate_left
 have z32_ := trivial
 rotate_left
 have z32_ := trivial
 rotate_left
 have z33_ := trivial
 rotate_left
 have z34_ := trivial
 rotate_left
 have z34_ := trivial
 rotate_left
 have z35_ := trivial
 rotate_left
 have z36_ := trivial
 rotate_left
 have z37_ := trivial
 rotate_left
 have z37_ := trivial
 rotate_left
 all_goals
  go_wp2_with (first | (have zz_ := z32_; clear zz_; (with_reducible refine gate_dst (N := 1) rfl ?_); refine box_event ?hg (N := 1) ?hd (cs := #[.int .i64 a0_0, .int .i64 a0_1, .int .i64 a0_2, .int .i64 a0_3, .int .i64 a0_4, .int .i64 a0_5, .bool a0_6, .bool a0_7, .slice A0_8 l0_8.length c0_8]) (t := 37) ?hr ?_; (case hd => rfl); (case hg => rfl); (case hr => first | (go_simp; done) | (go_simp; rfl)); intro gb1840 hg w1841 hbox hb; have n0_ := mk_ (below_step (ub_ HB.out) hb); have BK381 := mk_ (hbox); have GW381 := mk_ ((by rw [hg]; exact (below_size (ub_ HB.out)) : w.heap.size ≤ gb1840)); have GE381 := ge_ ((by rw [hg]; exact (below_size (ub_ HB.out)) : w.heap.size ≤ gb1840)); replace HB := n0_; clear n0_; clear hb hbox hg; obtain ⟨hcz210381_0, hcz210381_1, hcz210381_2, hcz210381_3, hcz210381_4, hcz210381_5, hcz210381_6, hcz210381_7, hcz210381_8, hfz210381_0, hfz210381_1, hfz210381_2, hfz210381_3, hfz210381_4, hfz210381_5, hfz210381_6, hfz210381_7, hfz210381_8⟩ := cells9_ BK381.out) | (have zz_ := z33_; clear zz_; (with_reducible refine gate_dst (N := 1) rfl ?_); refine box_event ?hg (N := 1) ?hd (cs := #[.int .i64 a0_0, .int .i64 a0_1, .int .i64 a0_2, .int .i64 a0_3, .int .i64 a0_4, .int .i64 a0_5, .bool false, .bool false, .slice A0_8 l0_8.length c0_8]) (t := 37) ?hr ?_; (case hd => rfl); (case hg => rfl); (case hr => first | (go_simp; done) | (go_simp; rfl)); intro gb1840 hg w1841 hbox hb; have n0_ := mk_ (below_step (ub_ HB.out) hb); have BK381 := mk_ (hbox); have GW381 := mk_ ((by rw [hg]; exact (below_size (ub_ HB.out)) : w.heap.size ≤ gb1840)); have GE381 := ge_ ((by rw [hg]; exact (below_size (ub_ HB.out)) : w.heap.size ≤ gb1840)); replace HB := n0_; clear n0_; clear hb hbox hg; obtain ⟨_, _, _, _, _, _, _, _, _, _, _, _, _, _, _, _, _, _⟩ := cells9_ BK381.out) | (have zz_ := z34_; clear zz_; (with_reducible refine gate_dst (N := 1) rfl ?_); refine box_event ?hg (N := 1) ?hd (cs := #[.int .i64 a0_0, .int .i64 a0_1, .int .i64 a0_2, .int .i64 a0_3, .int .i64 a0_4, .int .i64 a0_5, .bool false, .bool true, .slice A0_8 l0_8.length c0_8]) (t := 37) ?hr ?_; (case hd => rfl); (case hg => rfl); (case hr => first | (go_simp; done) | (go_simp; rfl)); intro gb1840 hg w1841 hbox hb; have n0_ := mk_ (below_step (ub_ HB.out) hb); have BK381 := mk_ (hbox); have GW381 := mk_ ((by rw [hg]; exact (below_size (ub_ HB.out)) : w.heap.size ≤ gb1840)); have GE381 := ge_ ((by rw [hg]; exact (below_size (ub_ HB.out)) : w.heap.size ≤ gb1840)); replace HB := n0_; clear n0_; clear hb hbox hg; obtain ⟨hcz210381_0, hcz210381_1, hcz210381_2, hcz210381_3, hcz210381_4, hcz210381_5, hcz210381_6, hcz210381_7, hcz210381_8, hfz210381_0, hfz210381_1, hfz210381_2, hfz210381_3, hfz210381_4, hfz210381_5, hfz210381_6, hfz210381_7, hfz210381_8⟩ := cells9_ BK381.out) | (have zz_ := z35_; clear zz_; (with_reducible refine gate_dst (N := 1) rfl ?_); refine box_event ?hg (N := 1) ?hd (cs := #[.int .i64 a0_0, .int .i64 a0_1, .int .i64 a0_2, .int .i64 a0_3, .int .i64 a0_4, .int .i64 a0_5, .bool true, .bool a0_7, .slice A0_8 l0_8.length c0_8]) (t := 37) ?hr ?_; (case hd => rfl); (case hg => rfl); (case hr => first | (go_simp; done) | (go_simp; rfl)); intro gb1840 hg w1841 hbox hb; have n0_ := mk_ (below_step (ub_ HB.out) hb); have BK381 := mk_ (hbox); have GW381 := mk_ ((by rw [hg]; exact (below_size (ub_ HB.out)) : w.heap.size ≤ gb1840)); have GE381 := ge_ ((by rw [hg]; exact (below_size (ub_ HB.out)) : w.heap.size ≤ gb1840)); replace HB := n0_; clear n0_; clear hb hbox hg; obtain ⟨hcz210381_0, hcz210381_1, hcz210381_2, hcz210381_3, hcz210381_4, hcz210381_5, hcz210381_6, hcz210381_7, hcz210381_8, hfz210381_0, hfz210381_1, hfz210381_2, hfz210381_3, hfz210381_4, hfz210381_5, hfz210381_6, hfz210381_7, hfz210381_8⟩ := cells9_ BK381.out) | (have zz_ := z36_; clear zz_; (with_reducible refine gate_dst (N := 1) rfl ?_); refine box_event ?hg (N := 1) ?hd (cs := #[.int .i64 a0_0, .int .i64 a0_1, .int .i64 a0_2, .int .i64 a0_3, .int .i64 a0_4, .int .i64 a0_5, .bool true, .bool false, .slice A0_8 l0_8.length c0_8]) (t := 37) ?hr ?_; (case hd => rfl); (case hg => rfl); (case hr => first | (go_simp; done) | (go_simp; rfl)); intro gb1840 hg w1841 hbox hb; have n0_ := mk_ (below_step (ub_ HB.out) hb); have BK381 := mk_ (hbox); have GW381 := mk_ ((by rw [hg]; exact (below_size (ub_ HB.out)) : w.heap.size ≤ gb1840)); have GE381 := ge_ ((by rw [hg]; exact (below_size (ub_ HB.out)) : w.heap.size ≤ gb1840)); replace HB := n0_; clear n0_; clear hb hbox hg; obtain ⟨hcz210381_0, hcz210381_1, hcz210381_2, _, _, _, _, _, _, hfz210381_0, hfz210381_1, hfz210381_2, _, _, _, _, _, _⟩ := cells9_ BK381.out) | (have zz_ := z37_; clear zz_; (with_reducible refine gate_dst (N := 1) rfl ?_); refine box_event ?hg (N := 1) ?hd (cs := #[.int .i64 a0_0, .int .i64 a0_1, .int .i64 a0_2, .int .i64 a0_3, .int .i64 a0_4, .int .i64 a0_5, .bool true, .bool true, .slice A0_8 l0_8.length c0_8]) (t := 37) ?hr ?_; (case hd => rfl); (case hg => rfl); (case hr => first | (go_simp; done) | (go_simp; rfl)); intro gb1840 hg w1841 hbox hb; have n0_ := mk_ (below_step (ub_ HB.out) hb); have BK381 := mk_ (hbox); have GW381 := mk_ ((by rw [hg]; exact (below_size (ub_ HB.out)) : w.heap.size ≤ gb1840)); have GE381 := ge_ ((by rw [hg]; exact (below_size (ub_ HB.out)) : w.heap.size ≤ gb1840)); replace HB := n0_; clear n0_; clear hb hbox hg; obtain ⟨hcz210381_0, hcz210381_1, hcz210381_2, hcz210381_3, hcz210381_4, hcz210381_5, hcz210381_6, hcz210381_7, hcz210381_8, hfz210381_0, hfz210381_1, hfz210381_2, hfz210381_3, hfz210381_4, hfz210381_5, hfz210381_6, hfz210381_7, hfz210381_8⟩ := cells9_ BK381.out) | ((with_reducible refine gate_callee (f := 53) rfl ?_); refine goesL_ (some 5) rfl rfl Try.func53 (by kernel_rfl) rfl #[.int .i64 a0_0, .int .i64 0, .int .i64 65535] rfl (by (try simp only [lm_, lo_, ln_]); try rfl) ?_; (with_reducible refine (spec_l1In.calls a0_0 0 65535 false _ A2.out).mono ?_); rintro e w' ⟨rfl, ⟨nd, rfl⟩⟩; refine ⟨_, rfl, ?_⟩) | ((with_reducible refine gate_callee (f := 53) rfl ?_); have hA_ := A2.out; refine goesL_ (some 5) rfl rfl Try.func53 (by kernel_rfl) rfl #[.int .i64 a0_0, .int .i64 0, .int .i64 65535] rfl (by (try simp only [lm_, lo_, ln_]); try rfl) ?_; (with_reducible refine (spec_l1In.calls a0_0 0 65535 true _ A2.out).mono ?_); rintro e w' ⟨rfl, ⟨nd, rfl⟩⟩; refine ⟨_, rfl, ?_⟩; clear hA_ A2) | (go_at_call 53; have hA_ := A4.out; (with_reducible refine (spec_l1In.calls a0_1 0 65535 false _ A4.out).mono ?_); rintro e w' ⟨rfl, ⟨nd, rfl⟩⟩; clear hA_ A4) | (go_at_call 53; have hA_ := A4.out; (with_reducible refine (spec_l1In.calls a0_1 0 65535 true _ A4.out).mono ?_); rintro e w' ⟨rfl, ⟨nd, rfl⟩⟩; clear hA_ A4) | (go_at_call 53; have hA_ := A6.out; (with_reducible refine (spec_l1In.calls a0_2 0 255 false _ A6.out).mono ?_); rintro e w' ⟨rfl, ⟨nd, rfl⟩⟩; clear hA_ A6) | (go_at_call 53; have hA_ := A6.out; (with_reducible refine (spec_l1In.calls a0_2 0 255 true _ A6.out).mono ?_); rintro e w' ⟨rfl, ⟨nd, rfl⟩⟩; clear hA_ A6) | (go_at_call 53; have hA_ := A8.out; (with_reducible refine (spec_l1In.calls a0_3 0 255 false _ A8.out).mono ?_); rintro e w' ⟨rfl, ⟨nd, rfl⟩⟩; clear hA_ A8) | (go_at_call 53; have hA_ := A8.out; (with_reducible refine (spec_l1In.calls a0_3 0 255 true _ A8.out).mono ?_); rintro e w' ⟨rfl, ⟨nd, rfl⟩⟩; clear hA_ A8) | (go_at_call 53; have hA_ := A10.out; (with_reducible refine (spec_l1In.calls a0_4 0 255 false _ A10.out).mono ?_); rintro e w' ⟨rfl, ⟨nd, rfl⟩⟩; clear hA_ A10) | (go_at_call 53; have hA_ := A10.out; (with_reducible refine (spec_l1In.calls a0_4 0 255 true _ A10.out).mono ?_); rintro e w' ⟨rfl, ⟨nd, rfl⟩⟩; clear hA_ A10) | (go_at_call 53; have hA_ := A12.out; (with_reducible refine (spec_l1In.calls a0_5 0 255 false _ A12.out).mono ?_); rintro e w' ⟨rfl, ⟨nd, rfl⟩⟩; clear hA_ A12) | (go_at_call 53; have hA_ := A12.out; (with_reducible refine (spec_l1In.calls a0_5 0 255 true _ A12.out).mono ?_); rintro e w' ⟨rfl, ⟨nd, rfl⟩⟩; clear hA_ A12))
  go_ret
  exact ⟨by first | rfl | (simp [errW_none, errW_some] <;> rfl) | (simp [*, errW_none, errW_some] <;> rfl), us_ HB.out⟩

/-! ### spec_NoteEchoed: function 17 -/
def spec_NoteEchoed.f (k : Nat) (a0_0 : Int) (a0_1 : Int) (a0_2 : Int) (a0_3 : Int) (a0_4 : Int) (a0_5 : Int) (a0_6 : Bool) (a0_7 : Bool) (l0_8 : List Int) (a1 : Int) : Option (Int × Int × Int × Int × Int × Int × Bool × Bool × List Int × Bool) := (spec_NoteFrom.f k l0_8).bind fun bt390 => ((spec_PacketOk.f a0_0 a0_1 a0_2 a0_3 a0_4 a0_5 a0_6 a0_7 l0_8).bind fun t397 => (if t397 = true then (if bt390.2.2.2 = true then (if a0_1 = a1 then (if a0_2 = 1 then (if bt390.1 = 1 then (if a0_5 > 0 then (some (0, 0, 0, 0, 0, 0, false, false, ([] : List Int), false)) else (if a0_6 = true then (some (0, 0, 0, 0, 0, 0, false, false, ([] : List Int), false)) else ((spec_NoteBytes.f k 2 bt390.2.1 bt390.2.2.1).bind fun t398 => (some (a1, a0_0, 1, 64, a0_4, 0, false, false, t398, true))))) else (some (0, 0, 0, 0, 0, 0, false, false, ([] : List Int), false))) else (some (0, 0, 0, 0, 0, 0, false, false, ([] : List Int), false))) else (some (0, 0, 0, 0, 0, 0, false, false, ([] : List Int), false))) else (some (0, 0, 0, 0, 0, 0, false, false, ([] : List Int), false))) else (some (0, 0, 0, 0, 0, 0, false, false, ([] : List Int), false))))
theorem spec_NoteEchoed.mono : ∀ a0 a1 a2 a3 a4 a5 a6 a7 a8 a9 k, LeO (spec_NoteEchoed.f k a0 a1 a2 a3 a4 a5 a6 a7 a8 a9) (spec_NoteEchoed.f (k + 1) a0 a1 a2 a3 a4 a5 a6 a7 a8 a9) := by
 intro a0 a1 a2 a3 a4 a5 a6 a7 a8 a9 k
 unfold spec_NoteEchoed.f
 repeat' first
   | (with_reducible exact spec_NoteBytes.mono _ _ _ _)
   | (with_reducible exact spec_NoteFrom.mono _ _)
   | (with_reducible exact LeO.refl _)
   | (with_reducible exact LeO.none _)
   | (with_reducible refine LeO.ite ?_ ?_)
   | (with_reducible refine LeO.bind ?_ (fun _ => ?_))
   | exact spec_NoteBytes.mono _ _ _ _
   | exact spec_NoteFrom.mono _ _
   | exact LeO.none _
   | refine LeO.ite ?_ ?_
   | refine LeO.bind ?_ (fun _ => ?_)
def spec_NoteEchoed.T5 : Bool × List (List Nat × List Nat) := (true, [([], []), ([], []), ([1], [1]), ([], []), ([3], [3]), ([], []), ([5], [5]), ([0, 2, 4, 6], [0, 2, 4, 6]), ([7, 6, 0, 1, 2, 3, 4, 5, 6, 7], [7]), ([8, 0, 1, 2, 3, 4, 5, 6, 7, 8], [])])
def spec_NoteEchoed.B5 : List Nat := [0, 0, 2, 0, 8, 0, 32, 127, 255, 511]
theorem spec_NoteEchoed.tab5 : rtab .any (opsOf Try.f17 5) = spec_NoteEchoed.T5 := by kernel_rfl
theorem spec_NoteEchoed.bits5 : waitsOk spec_NoteEchoed.T5.2 spec_NoteEchoed.B5 = true := by kernel_rfl
set_option maxHeartbeats 8000000 in
set_option maxRecDepth 100000 in
theorem spec_NoteEchoed.calls (k : Nat) (a0_0 : Int) (a0_1 : Int) (a0_2 : Int) (a0_3 : Int) (a0_4 : Int) (a0_5 : Int) (a0_6 : Bool) (a0_7 : Bool) (A0_8 : Option Addr) (c0_8 : Nat) (l0_8 : List Int) (a1 : Int) (r1 : Int) (r2 : Int) (r3 : Int) (r4 : Int) (r5 : Int) (r6 : Int) (r7 : Bool) (r8 : Bool) (r9 : List Int) (r10 : Bool) (w : World) (hr0_8 : Kd.C (Kd.int .u8) w A0_8 l0_8.length l0_8) (hc0_8 : l0_8.length ≤ c0_8) (h : spec_NoteEchoed.f k a0_0 a0_1 a0_2 a0_3 a0_4 a0_5 a0_6 a0_7 l0_8 a1 = some (r1, r2, r3, r4, r5, r6, r7, r8, r9, r10)) :
  Calls Try.prog 17 #[.agg #[.int .i64 a0_0, .int .i64 a0_1, .int .i64 a0_2, .int .i64 a0_3, .int .i64 a0_4, .int .i64 a0_5, .bool a0_6, .bool a0_7, .slice A0_8 l0_8.length c0_8], .int .i64 a1] w fun e w' => ∃ v8_ : Value, e = .returned (.tuple #[.agg #[.int .i64 r1, .int .i64 r2, .int .i64 r3, .int .i64 r4, .int .i64 r5, .int .i64 r6, .bool r7, .bool r8, v8_], .bool r10]) ∧ Kd.R (Kd.int .u8) 5 w' w.heap.size (fun _ => True) v8_ r9 ∧ Below w.heap.size w w' := by
 have hu37 := Try.underlying37
 have hu44 := Try.underlying44
 have HR0_8 := mk_ hr0_8
 have HC0_8 := mk_ hc0_8
 clear hr0_8 hc0_8
 have HB := mk_ (Below.refl w.heap.size w)
 have H := h
 unfold spec_NoteEchoed.f at H
 clear h
 replace H := Option.bind_eq_some_iff.mp H
 obtain ⟨⟨t390, t391, t392, t395⟩, A30, H⟩ := H
 (try dsimp only at H)
 have A3 := mk_ A30
 clear A30
 replace H := Option.bind_eq_some_iff.mp H
 obtain ⟨t397, A40, H⟩ := H
 (try dsimp only at H)
 have A4 := mk_ A40
 clear A40
 by_cases c5 : t397 = true
 rotate_left
 focus
  replace c5 := Bool.eq_false_iff.mpr c5
  subst c5
  rw [if_neg (show ¬ (false = true) by decide)] at H
  simp only [Option.some.injEq, Prod.mk.injEq] at H
  obtain ⟨rfl, rfl, rfl, rfl, rfl, rfl, rfl, rfl, rfl, rfl⟩ := H
 rotate_left
 focus
  subst c5
  rw [if_pos rfl] at H
  by_cases c6 : t395 = true
  rotate_left
  focus
   replace c6 := Bool.eq_false_iff.mpr c6
   subst c6
   rw [if_neg (show ¬ (false = true) by decide)] at H
   simp only [Option.some.injEq, Prod.mk.injEq] at H
   obtain ⟨rfl, rfl, rfl, rfl, rfl, rfl, rfl, rfl, rfl, rfl⟩ := H
  rotate_left
  focus
   subst c6
   rw [if_pos rfl] at H
   by_cases c7 : a0_1 = a1
   rotate_left
   focus
    rw [if_neg c7] at H
    have c7b0 : (a0_1 == a1) = false := beq_eq_false_iff_ne.mpr c7
    have c7b1 : (a0_1 != a1) = true := bne_iff_ne.mpr c7
    simp only [Option.some.injEq, Prod.mk.injEq] at H
    obtain ⟨rfl, rfl, rfl, rfl, rfl, rfl, rfl, rfl, rfl, rfl⟩ := H
   rotate_left
   focus
    rw [if_pos c7] at H
    have c7b0 : (a0_1 == a1) = true := beq_iff_eq.mpr c7
    have c7b1 : (a0_1 != a1) = false := bne_eq_false_iff_eq.mpr c7
    clear c7
    by_cases c8 : a0_2 = 1
    rotate_left
    focus
     rw [if_neg c8] at H
     have c8b0 : (a0_2 == 1) = false := beq_eq_false_iff_ne.mpr c8
     have c8b1 : (a0_2 != 1) = true := bne_iff_ne.mpr c8
     simp only [Option.some.injEq, Prod.mk.injEq] at H
     obtain ⟨rfl, rfl, rfl, rfl, rfl, rfl, rfl, rfl, rfl, rfl⟩ := H
    rotate_left
    focus
     rw [if_pos c8] at H
     have c8b0 : (a0_2 == 1) = true := beq_iff_eq.mpr c8
     have c8b1 : (a0_2 != 1) = false := bne_eq_false_iff_eq.mpr c8
     clear c8
     by_cases c9 : t390 = 1
     rotate_left
     focus
      rw [if_neg c9] at H
      have c9b0 : (t390 == 1) = false := beq_eq_false_iff_ne.mpr c9
      have c9b1 : (t390 != 1) = true := bne_iff_ne.mpr c9
      simp only [Option.some.injEq, Prod.mk.injEq] at H
      obtain ⟨rfl, rfl, rfl, rfl, rfl, rfl, rfl, rfl, rfl, rfl⟩ := H
     rotate_left
     focus
      rw [if_pos c9] at H
      have c9b0 : (t390 == 1) = true := beq_iff_eq.mpr c9
      have c9b1 : (t390 != 1) = false := bne_eq_false_iff_eq.mpr c9
      clear c9
      by_cases c10 : a0_5 > 0
      focus
       rw [if_pos c10] at H
       have c10b0 : decide (0 < a0_5) = true := decide_eq_true c10
       clear c10
       simp only [Option.some.injEq, Prod.mk.injEq] at H
       obtain ⟨rfl, rfl, rfl, rfl, rfl, rfl, rfl, rfl, rfl, rfl⟩ := H
      rotate_left
      focus
       rw [if_neg c10] at H
       have c10b0 : decide (0 < a0_5) = false := decide_eq_false c10
       clear c10
       by_cases c27 : a0_6 = true
       focus
        subst c27
        rw [if_pos rfl] at H
        simp only [Option.some.injEq, Prod.mk.injEq] at H
        obtain ⟨rfl, rfl, rfl, rfl, rfl, rfl, rfl, rfl, rfl, rfl⟩ := H
       rotate_left
       focus
        replace c27 := Bool.eq_false_iff.mpr c27
        subst c27
        rw [if_neg (show ¬ (false = true) by decide)] at H
        replace H := Option.bind_eq_some_iff.mp H
        obtain ⟨t398, A440, H⟩ := H
        replace H : (some (a1, a0_0, 1, 64, a0_4, 0, false, false, t398, true)) = some (r1, r2, r3, r4, r5, r6, r7, r8, r9, r10) := H
        have A44 := mk_ A440
        clear A440
        simp only [Option.some.injEq, Prod.mk.injEq] at H
        obtain ⟨rfl, rfl, rfl, rfl, rfl, rfl, rfl, rfl, rfl, rfl⟩ := H
       rotate_left
      rotate_left 2
     rotate_left 3
    rotate_left 4
   rotate_left 5
  rotate_left 6
 rotate_left 7
 all_goals
  go_enter Try.func17, Try.ntmps17
 have z38_ := trivial
 have z41_ := trivial
 rotate_left
 have z38_ := trivial
 have z41_ := trivial
 rotate_left
 have z38_ := trivial
 have z41_ := trivial
 rotate_left
 have z38_ := trivial
 have z41_ := trivial
 rotate_left
 have z38_ := trivial
 have z41_ := trivial
 rotate_left
 have z38_ := trivial
 have z41_ := trivial
 rotate_left
 have z39_ := trivial
 have z42_ := trivial
 rotate_left
 have z40_ := trivial
 rotate_left
 all_goals
  try go_wp2_with (first | (have zz_ := z38_; clear zz_; (with_reducible refine gate_dst (N := 2) rfl ?_); refine box_event ?hg (N := 2) ?hd (cs := #[.int .i64 a0_0, .int .i64 a0_1, .int .i64 a0_2, .int .i64 a0_3, .int .i64 a0_4, .int .i64 a0_5, .bool a0_6, .bool a0_7, .slice A0_8 l0_8.length c0_8]) (t := 37) ?hr ?_; (case hd => rfl); (case hg => rfl); (case hr => first | (go_simp; done) | (go_simp; rfl)); intro gb20840 hg w20841 hbox hb; have n0_ := mk_ (below_step (ub_ HB.out) hb); have BK388 := mk_ (hbox); have GW388 := mk_ ((by rw [hg]; exact (below_size (ub_ HB.out)) : w.heap.size ≤ gb20840)); have GE388 := ge_ ((by rw [hg]; exact (below_size (ub_ HB.out)) : w.heap.size ≤ gb20840)); replace HB := n0_; clear n0_; clear hb hbox hg) | (have zz_ := z39_; clear zz_; (with_reducible refine gate_dst (N := 2) rfl ?_); refine box_event ?hg (N := 2) ?hd (cs := #[.int .i64 a0_0, .int .i64 a0_1, .int .i64 a0_2, .int .i64 a0_3, .int .i64 a0_4, .int .i64 a0_5, .bool true, .bool a0_7, .slice A0_8 l0_8.length c0_8]) (t := 37) ?hr ?_; (case hd => rfl); (case hg => rfl); (case hr => first | (go_simp; done) | (go_simp; rfl)); intro gb20840 hg w20841 hbox hb; have n0_ := mk_ (below_step (ub_ HB.out) hb); have BK388 := mk_ (hbox); have GW388 := mk_ ((by rw [hg]; exact (below_size (ub_ HB.out)) : w.heap.size ≤ gb20840)); have GE388 := ge_ ((by rw [hg]; exact (below_size (ub_ HB.out)) : w.heap.size ≤ gb20840)); replace HB := n0_; clear n0_; clear hb hbox hg) | (have zz_ := z40_; clear zz_; (with_reducible refine gate_dst (N := 2) rfl ?_); refine box_event ?hg (N := 2) ?hd (cs := #[.int .i64 a0_0, .int .i64 a0_1, .int .i64 a0_2, .int .i64 a0_3, .int .i64 a0_4, .int .i64 a0_5, .bool false, .bool a0_7, .slice A0_8 l0_8.length c0_8]) (t := 37) ?hr ?_; (case hd => rfl); (case hg => rfl); (case hr => first | (go_simp; done) | (go_simp; rfl)); intro gb20840 hg w20841 hbox hb; have n0_ := mk_ (below_step (ub_ HB.out) hb); have BK388 := mk_ (hbox); have GW388 := mk_ ((by rw [hg]; exact (below_size (ub_ HB.out)) : w.heap.size ≤ gb20840)); have GE388 := ge_ ((by rw [hg]; exact (below_size (ub_ HB.out)) : w.heap.size ≤ gb20840)); replace HB := n0_; clear n0_; clear hb hbox hg) | ((with_reducible refine gate_dst (N := 4) rfl ?_); refine box_event ?hg (N := 4) ?hd (cs := #[.int .i64 0, .int .i64 0, .int .i64 0, .int .i64 0, .int .i64 0, .int .i64 0, .bool false, .bool false, .slice none 0 0]) (t := 37) ?hr ?_; (case hd => rfl); (case hg => rfl); (case hr => first | (go_simp; done) | (go_simp; rfl)); intro gb12960 hg w12961 hbox hb; have n0_ := mk_ (blk_below (u_ BK388.out) hb); have n1_ := mk_ (below_step (us_ HB.out) hb); have BK389 := mk_ (hbox); have GW389 := mk_ ((by rw [hg]; exact (below_size (us_ HB.out)) : w.heap.size ≤ gb12960)); have GE389 := ge_ ((by rw [hg]; exact (below_size (us_ HB.out)) : w.heap.size ≤ gb12960)); have NB388_389 := nq_ ((by rw [hg]; exact Nat.ne_of_lt (blk_lt (u_ BK388.out)) : gb20840 ≠ gb12960)); have NB389_388 := nq_ ((by rw [hg]; exact Nat.ne_of_gt (blk_lt (u_ BK388.out)) : gb12960 ≠ gb20840)); replace BK388 := n0_; replace HB := n1_; clear n0_ n1_; clear hb hbox hg; have hnb2990388389 := NB388_389.out; have hnc2990388389 := NB389_388.out; obtain ⟨hcz2990388_0, hcz2990388_1, hcz2990388_2, hcz2990388_3, hcz2990388_4, hcz2990388_5, hcz2990388_6, hcz2990388_7, hcz2990388_8, hfz2990388_0, hfz2990388_1, hfz2990388_2, hfz2990388_3, hfz2990388_4, hfz2990388_5, hfz2990388_6, hfz2990388_7, hfz2990388_8⟩ := cells9_ BK388.out) | ((with_reducible refine gate_callee (f := 59) rfl ?_); refine goesL_ (some 11) rfl rfl Try.func59 (by kernel_rfl) rfl #[.slice A0_8 l0_8.length c0_8] rfl (by (try simp only [lm_, lo_, ln_]); try rfl) ?_; (with_reducible refine (spec_NoteFrom.calls k _ _ l0_8 t390 t391 t392 t395 _ ?side1 ?side2 A3.out).mono ?_); (case side1 => repeat (first | exact (Kd.C_below HR0_8.out HB.out) | (with_reducible refine Kd.C_alloc ?_ _) | (with_reducible refine Kd.C_drewN ?_ _) | (with_reducible refine Kd.C_drew ?_))); (case side2 => exact HC0_8.out); rintro e w24400 ⟨v24401, rfl, ho24402, hb⟩; refine ⟨_, rfl, ?_⟩; have HO394 := mk_ (Kd.R_lower ho24402 (below_size (us_ HB.out))); replace BK388 := mk_ (blk_below (u_ BK388.out) hb); replace BK389 := mk_ (blk_below (u_ BK389.out) hb); replace HB := mk_ (below_step (us_ HB.out) hb)) | ((with_reducible refine gate_callee (f := 59) rfl ?_); refine goesL_ (some 11) rfl rfl Try.func59 (by kernel_rfl) rfl #[.slice A0_8 l0_8.length c0_8] rfl (by (try simp only [lm_, lo_, ln_]); try rfl) ?_; (with_reducible refine (spec_NoteFrom.calls k _ _ l0_8 t390 t391 t392 false _ ?side1 ?side2 A3.out).mono ?_); (case side1 => repeat (first | exact (Kd.C_below HR0_8.out HB.out) | (with_reducible refine Kd.C_alloc ?_ _) | (with_reducible refine Kd.C_drewN ?_ _) | (with_reducible refine Kd.C_drew ?_))); (case side2 => exact HC0_8.out); rintro e w24400 ⟨v24401, rfl, ho24402, hb⟩; refine ⟨_, rfl, ?_⟩; have HO394 := mk_ (Kd.R_lower ho24402 (below_size (us_ HB.out))); replace BK388 := mk_ (blk_below (u_ BK388.out) hb); replace BK389 := mk_ (blk_below (u_ BK389.out) hb); replace HB := mk_ (below_step (us_ HB.out) hb)) | ((with_reducible refine gate_callee (f := 59) rfl ?_); refine goesL_ (some 11) rfl rfl Try.func59 (by kernel_rfl) rfl #[.slice A0_8 l0_8.length c0_8] rfl (by (try simp only [lm_, lo_, ln_]); try rfl) ?_; (with_reducible refine (spec_NoteFrom.calls k _ _ l0_8 t390 t391 t392 true _ ?side1 ?side2 A3.out).mono ?_); (case side1 => repeat (first | exact (Kd.C_below HR0_8.out HB.out) | (with_reducible refine Kd.C_alloc ?_ _) | (with_reducible refine Kd.C_drewN ?_ _) | (with_reducible refine Kd.C_drew ?_))); (case side2 => exact HC0_8.out); rintro e w24400 ⟨v24401, rfl, ho24402, hb⟩; refine ⟨_, rfl, ?_⟩; have HO394 := mk_ (Kd.R_lower ho24402 (below_size (us_ HB.out))); replace BK388 := mk_ (blk_below (u_ BK388.out) hb); replace BK389 := mk_ (blk_below (u_ BK389.out) hb); replace HB := mk_ (below_step (us_ HB.out) hb)) | ((with_reducible refine gate_dst (N := 6) rfl ?_); refine box_event ?hg (N := 6) ?hd (cs := #[.int .i64 0, .int .i64 0, .slice none 0 0]) (t := 44) ?hr ?_; (case hd => rfl); (case hg => rfl); (case hr => first | (go_simp; done) | (go_simp; rfl)); intro gb13560 hg w13561 hbox hb; replace HO394 := mk_ (Kd.R_below (Kd.ur_ HO394.out) hb); have n1_ := mk_ (blk_below (u_ BK388.out) hb); have n2_ := mk_ (blk_below (u_ BK389.out) hb); have n3_ := mk_ (below_step (us_ HB.out) hb); have BK396 := mk_ (hbox); have GW396 := mk_ ((by rw [hg]; exact (below_size (us_ HB.out)) : w.heap.size ≤ gb13560)); have GE396 := ge_ ((by rw [hg]; exact (below_size (us_ HB.out)) : w.heap.size ≤ gb13560)); have NB388_396 := nq_ ((by rw [hg]; exact Nat.ne_of_lt (blk_lt (u_ BK388.out)) : gb20840 ≠ gb13560)); have NB396_388 := nq_ ((by rw [hg]; exact Nat.ne_of_gt (blk_lt (u_ BK388.out)) : gb13560 ≠ gb20840)); have NB389_396 := nq_ ((by rw [hg]; exact Nat.ne_of_lt (blk_lt (u_ BK389.out)) : gb12960 ≠ gb13560)); have NB396_389 := nq_ ((by rw [hg]; exact Nat.ne_of_gt (blk_lt (u_ BK389.out)) : gb13560 ≠ gb12960)); replace BK388 := n1_; replace BK389 := n2_; replace HB := n3_; clear n1_ n2_ n3_; clear hb hbox hg; have hnb3140388396 := NB396_388.out; have hnc3140388396 := NB388_396.out; have hnb3140389396 := NB396_389.out; have hnc3140389396 := NB389_396.out; obtain ⟨hcz3140396_0, hcz3140396_1, hcz3140396_2, hfz3140396_0, hfz3140396_1, hfz3140396_2⟩ := cells3_ BK396.out; obtain ⟨Ao3140394, co3140394, eo3140394⟩ := Kd.R_slice HO394.out; subst eo3140394; obtain ⟨hcz3140388_0, hcz3140388_1, hcz3140388_2, hcz3140388_3, hcz3140388_4, hcz3140388_5, hcz3140388_6, hcz3140388_7, hcz3140388_8, hfz3140388_0, hfz3140388_1, hfz3140388_2, hfz3140388_3, hfz3140388_4, hfz3140388_5, hfz3140388_6, hfz3140388_7, hfz3140388_8⟩ := cells9_ BK388.out) | ((with_reducible refine gate_callee (f := 60) rfl ?_); refine goesL_ (some 15) rfl rfl Try.func60 (by kernel_rfl) rfl #[.agg #[.int .i64 a0_0, .int .i64 a0_1, .int .i64 a0_2, .int .i64 a0_3, .int .i64 a0_4, .int .i64 a0_5, .bool a0_6, .bool a0_7, .slice A0_8 l0_8.length c0_8]] rfl (by (try simp only [lm_, lo_, ln_]); try rfl) ?_; (with_reducible refine (spec_PacketOk.calls a0_0 a0_1 a0_2 a0_3 a0_4 a0_5 a0_6 a0_7 _ _ l0_8 false _ ?side1 ?side2 A4.out).mono ?_); (case side1 => exact Kd.C_below HR0_8.out (us_ HB.out)); (case side2 => exact HC0_8.out); rintro e w24440 ⟨rfl, hb⟩; refine ⟨_, rfl, ?_⟩; replace HO394 := mk_ (Kd.R_below (by (with_reducible repeat (first | apply Kd.R_alloc | apply Kd.R_drewN | apply Kd.R_drew)); exact (Kd.R_mono (Kd.R_far (p := ⟨gb13560, 2, none⟩) (Kd.R_far (p := ⟨gb13560, 1, none⟩) (Kd.R_far (p := ⟨gb13560, 0, none⟩) (Kd.R_types HO394.out BK396.out (by decide)) (fun _ hk => hk.2) (.int .i64 t390)) (fun _ hk => hk.2) (.int .i64 t391)) (fun _ hk => hk.2) (.slice Ao3140394 t392.length co3140394)) (fun _ h_ => by first | exact h_.1 | simp only [h_, ne_eq, not_false_eq_true, and_self]))) hb); replace BK388 := mk_ (blk_below (g := gb20840) (o := .cells #[.int .i64 a0_0, .int .i64 a0_1, .int .i64 a0_2, .int .i64 a0_3, .int .i64 a0_4, .int .i64 a0_5, .bool a0_6, .bool a0_7, .slice A0_8 l0_8.length c0_8] 37 (0, 0)) (uf_ BK388.out) hb); replace BK389 := mk_ (blk_below (g := gb12960) (o := .cells #[.int .i64 0, .int .i64 0, .int .i64 0, .int .i64 0, .int .i64 0, .int .i64 0, .bool false, .bool false, .slice none 0 0] 37 (0, 0)) (uf_ BK389.out) hb); replace BK396 := mk_ (blk_below (g := gb13560) (o := .cells #[.int .i64 t390, .int .i64 t391, .slice Ao3140394 t392.length co3140394] 44 (0, 0)) (by (with_reducible repeat (first | refine bn_ ?_ _ | refine bw_ ?_ | refine ba_ ?_ _)); refine blk_put (cs := #[.int .i64 t390, .int .i64 t391, .slice none 0 0]) ?_ 2 _ rfl; (with_reducible repeat (first | refine bn_ ?_ _ | refine bw_ ?_ | refine ba_ ?_ _)); refine blk_put (cs := #[.int .i64 t390, .int .i64 0, .slice none 0 0]) ?_ 1 _ rfl; (with_reducible repeat (first | refine bn_ ?_ _ | refine bw_ ?_ | refine ba_ ?_ _)); refine blk_put (cs := #[.int .i64 0, .int .i64 0, .slice none 0 0]) ?_ 0 _ rfl; (with_reducible repeat (first | refine bn_ ?_ _ | refine bw_ ?_ | refine ba_ ?_ _)); exact BK396.out) hb); replace HB := mk_ (below_step (us_ HB.out) hb); obtain ⟨_, _, _, _, _, _, _, _, _, _, _, _, _, _, _, _, _, _⟩ := cells9_ BK389.out) | ((with_reducible refine gate_callee (f := 60) rfl ?_); refine goesL_ (some 15) rfl rfl Try.func60 (by kernel_rfl) rfl #[.agg #[.int .i64 a0_0, .int .i64 a0_1, .int .i64 a0_2, .int .i64 a0_3, .int .i64 a0_4, .int .i64 a0_5, .bool a0_6, .bool a0_7, .slice A0_8 l0_8.length c0_8]] rfl (by (try simp only [lm_, lo_, ln_]); try rfl) ?_; (with_reducible refine (spec_PacketOk.calls a0_0 a0_1 a0_2 a0_3 a0_4 a0_5 a0_6 a0_7 _ _ l0_8 true _ ?side1 ?side2 A4.out).mono ?_); (case side1 => exact Kd.C_below HR0_8.out (us_ HB.out)); (case side2 => exact HC0_8.out); rintro e w24440 ⟨rfl, hb⟩; refine ⟨_, rfl, ?_⟩; replace HO394 := mk_ (Kd.R_below (by (with_reducible repeat (first | apply Kd.R_alloc | apply Kd.R_drewN | apply Kd.R_drew)); exact (Kd.R_mono (Kd.R_far (p := ⟨gb13560, 2, none⟩) (Kd.R_far (p := ⟨gb13560, 1, none⟩) (Kd.R_far (p := ⟨gb13560, 0, none⟩) (Kd.R_types HO394.out BK396.out (by decide)) (fun _ hk => hk.2) (.int .i64 t390)) (fun _ hk => hk.2) (.int .i64 t391)) (fun _ hk => hk.2) (.slice Ao3140394 t392.length co3140394)) (fun _ h_ => by first | exact h_.1 | simp only [h_, ne_eq, not_false_eq_true, and_self]))) hb); replace BK388 := mk_ (blk_below (g := gb20840) (o := .cells #[.int .i64 a0_0, .int .i64 a0_1, .int .i64 a0_2, .int .i64 a0_3, .int .i64 a0_4, .int .i64 a0_5, .bool a0_6, .bool a0_7, .slice A0_8 l0_8.length c0_8] 37 (0, 0)) (uf_ BK388.out) hb); replace BK389 := mk_ (blk_below (g := gb12960) (o := .cells #[.int .i64 0, .int .i64 0, .int .i64 0, .int .i64 0, .int .i64 0, .int .i64 0, .bool false, .bool false, .slice none 0 0] 37 (0, 0)) (uf_ BK389.out) hb); replace BK396 := mk_ (blk_below (g := gb13560) (o := .cells #[.int .i64 t390, .int .i64 t391, .slice Ao3140394 t392.length co3140394] 44 (0, 0)) (by (with_reducible repeat (first | refine bn_ ?_ _ | refine bw_ ?_ | refine ba_ ?_ _)); refine blk_put (cs := #[.int .i64 t390, .int .i64 t391, .slice none 0 0]) ?_ 2 _ rfl; (with_reducible repeat (first | refine bn_ ?_ _ | refine bw_ ?_ | refine ba_ ?_ _)); refine blk_put (cs := #[.int .i64 t390, .int .i64 0, .slice none 0 0]) ?_ 1 _ rfl; (with_reducible repeat (first | refine bn_ ?_ _ | refine bw_ ?_ | refine ba_ ?_ _)); refine blk_put (cs := #[.int .i64 0, .int .i64 0, .slice none 0 0]) ?_ 0 _ rfl; (with_reducible repeat (first | refine bn_ ?_ _ | refine bw_ ?_ | refine ba_ ?_ _)); exact BK396.out) hb); replace HB := mk_ (below_step (us_ HB.out) hb); obtain ⟨_, _, _, _, _, _, _, _, _, _, _, _, _, _, _, _, _, _⟩ := cells9_ BK389.out; obtain ⟨_, _, _, _, _, _, _, _, _, _, _, _, _, _, _, _, _, _⟩ := cells9_ BK388.out; obtain ⟨_, _, _, _, _, _, _, _, _, _, _, _, _, _, _, _, _, _⟩ := cells9_ BK389.out; obtain ⟨hcz5860396_0, hcz5860396_1, hcz5860396_2, hfz5860396_0, hfz5860396_1, hfz5860396_2⟩ := cells3_ BK396.out; obtain ⟨hcz5860389_0, hcz5860389_1, hcz5860389_2, hcz5860389_3, hcz5860389_4, hcz5860389_5, hcz5860389_6, hcz5860389_7, hcz5860389_8, hfz5860389_0, hfz5860389_1, hfz5860389_2, hfz5860389_3, hfz5860389_4, hfz5860389_5, hfz5860389_6, hfz5860389_7, hfz5860389_8⟩ := cells9_ BK389.out) | ((with_reducible refine gate_callee (f := 60) rfl ?_); refine goesL_ (some 15) rfl rfl Try.func60 (by kernel_rfl) rfl #[.agg #[.int .i64 a0_0, .int .i64 a0_1, .int .i64 a0_2, .int .i64 a0_3, .int .i64 a0_4, .int .i64 a0_5, .bool true, .bool a0_7, .slice A0_8 l0_8.length c0_8]] rfl (by (try simp only [lm_, lo_, ln_]); try rfl) ?_; (with_reducible refine (spec_PacketOk.calls a0_0 a0_1 a0_2 a0_3 a0_4 a0_5 true a0_7 _ _ l0_8 true _ ?side1 ?side2 A4.out).mono ?_); (case side1 => exact Kd.C_below HR0_8.out (us_ HB.out)); (case side2 => exact HC0_8.out); rintro e w24440 ⟨rfl, hb⟩; refine ⟨_, rfl, ?_⟩; replace HO394 := mk_ (Kd.R_below (by (with_reducible repeat (first | apply Kd.R_alloc | apply Kd.R_drewN | apply Kd.R_drew)); exact (Kd.R_mono (Kd.R_far (p := ⟨gb13560, 2, none⟩) (Kd.R_far (p := ⟨gb13560, 1, none⟩) (Kd.R_far (p := ⟨gb13560, 0, none⟩) (Kd.R_types HO394.out BK396.out (by decide)) (fun _ hk => hk.2) (.int .i64 t390)) (fun _ hk => hk.2) (.int .i64 t391)) (fun _ hk => hk.2) (.slice Ao3140394 t392.length co3140394)) (fun _ h_ => by first | exact h_.1 | simp only [h_, ne_eq, not_false_eq_true, and_self]))) hb); replace BK388 := mk_ (blk_below (g := gb20840) (o := .cells #[.int .i64 a0_0, .int .i64 a0_1, .int .i64 a0_2, .int .i64 a0_3, .int .i64 a0_4, .int .i64 a0_5, .bool true, .bool a0_7, .slice A0_8 l0_8.length c0_8] 37 (0, 0)) (uf_ BK388.out) hb); replace BK389 := mk_ (blk_below (g := gb12960) (o := .cells #[.int .i64 0, .int .i64 0, .int .i64 0, .int .i64 0, .int .i64 0, .int .i64 0, .bool false, .bool false, .slice none 0 0] 37 (0, 0)) (uf_ BK389.out) hb); replace BK396 := mk_ (blk_below (g := gb13560) (o := .cells #[.int .i64 t390, .int .i64 t391, .slice Ao3140394 t392.length co3140394] 44 (0, 0)) (by (with_reducible repeat (first | refine bn_ ?_ _ | refine bw_ ?_ | refine ba_ ?_ _)); refine blk_put (cs := #[.int .i64 t390, .int .i64 t391, .slice none 0 0]) ?_ 2 _ rfl; (with_reducible repeat (first | refine bn_ ?_ _ | refine bw_ ?_ | refine ba_ ?_ _)); refine blk_put (cs := #[.int .i64 t390, .int .i64 0, .slice none 0 0]) ?_ 1 _ rfl; (with_reducible repeat (first | refine bn_ ?_ _ | refine bw_ ?_ | refine ba_ ?_ _)); refine blk_put (cs := #[.int .i64 0, .int .i64 0, .slice none 0 0]) ?_ 0 _ rfl; (with_reducible repeat (first | refine bn_ ?_ _ | refine bw_ ?_ | refine ba_ ?_ _)); exact BK396.out) hb); replace HB := mk_ (below_step (us_ HB.out) hb); obtain ⟨hcz5860388_0, hcz5860388_1, hcz5860388_2, hcz5860388_3, hcz5860388_4, hcz5860388_5, hcz5860388_6, hcz5860388_7, hcz5860388_8, hfz5860388_0, hfz5860388_1, hfz5860388_2, hfz5860388_3, hfz5860388_4, hfz5860388_5, hfz5860388_6, hfz5860388_7, hfz5860388_8⟩ := cells9_ BK388.out; obtain ⟨hcz5860396_0, hcz5860396_1, hcz5860396_2, hfz5860396_0, hfz5860396_1, hfz5860396_2⟩ := cells3_ BK396.out; obtain ⟨hcz5860389_0, hcz5860389_1, hcz5860389_2, hcz5860389_3, hcz5860389_4, hcz5860389_5, hcz5860389_6, hcz5860389_7, hcz5860389_8, hfz5860389_0, hfz5860389_1, hfz5860389_2, hfz5860389_3, hfz5860389_4, hfz5860389_5, hfz5860389_6, hfz5860389_7, hfz5860389_8⟩ := cells9_ BK389.out) | ((with_reducible refine gate_callee (f := 60) rfl ?_); refine goesL_ (some 15) rfl rfl Try.func60 (by kernel_rfl) rfl #[.agg #[.int .i64 a0_0, .int .i64 a0_1, .int .i64 a0_2, .int .i64 a0_3, .int .i64 a0_4, .int .i64 a0_5, .bool false, .bool a0_7, .slice A0_8 l0_8.length c0_8]] rfl (by (try simp only [lm_, lo_, ln_]); try rfl) ?_; (with_reducible refine (spec_PacketOk.calls a0_0 a0_1 a0_2 a0_3 a0_4 a0_5 false a0_7 _ _ l0_8 true _ ?side1 ?side2 A4.out).mono ?_); (case side1 => exact Kd.C_below HR0_8.out (us_ HB.out)); (case side2 => exact HC0_8.out); rintro e w24440 ⟨rfl, hb⟩; refine ⟨_, rfl, ?_⟩; replace HO394 := mk_ (Kd.R_below (by (with_reducible repeat (first | apply Kd.R_alloc | apply Kd.R_drewN | apply Kd.R_drew)); exact (Kd.R_mono (Kd.R_far (p := ⟨gb13560, 2, none⟩) (Kd.R_far (p := ⟨gb13560, 1, none⟩) (Kd.R_far (p := ⟨gb13560, 0, none⟩) (Kd.R_types HO394.out BK396.out (by decide)) (fun _ hk => hk.2) (.int .i64 t390)) (fun _ hk => hk.2) (.int .i64 t391)) (fun _ hk => hk.2) (.slice Ao3140394 t392.length co3140394)) (fun _ h_ => by first | exact h_.1 | simp only [h_, ne_eq, not_false_eq_true, and_self]))) hb); replace BK388 := mk_ (blk_below (g := gb20840) (o := .cells #[.int .i64 a0_0, .int .i64 a0_1, .int .i64 a0_2, .int .i64 a0_3, .int .i64 a0_4, .int .i64 a0_5, .bool false, .bool a0_7, .slice A0_8 l0_8.length c0_8] 37 (0, 0)) (uf_ BK388.out) hb); replace BK389 := mk_ (blk_below (g := gb12960) (o := .cells #[.int .i64 0, .int .i64 0, .int .i64 0, .int .i64 0, .int .i64 0, .int .i64 0, .bool false, .bool false, .slice none 0 0] 37 (0, 0)) (uf_ BK389.out) hb); replace BK396 := mk_ (blk_below (g := gb13560) (o := .cells #[.int .i64 t390, .int .i64 t391, .slice Ao3140394 t392.length co3140394] 44 (0, 0)) (by (with_reducible repeat (first | refine bn_ ?_ _ | refine bw_ ?_ | refine ba_ ?_ _)); refine blk_put (cs := #[.int .i64 t390, .int .i64 t391, .slice none 0 0]) ?_ 2 _ rfl; (with_reducible repeat (first | refine bn_ ?_ _ | refine bw_ ?_ | refine ba_ ?_ _)); refine blk_put (cs := #[.int .i64 t390, .int .i64 0, .slice none 0 0]) ?_ 1 _ rfl; (with_reducible repeat (first | refine bn_ ?_ _ | refine bw_ ?_ | refine ba_ ?_ _)); refine blk_put (cs := #[.int .i64 0, .int .i64 0, .slice none 0 0]) ?_ 0 _ rfl; (with_reducible repeat (first | refine bn_ ?_ _ | refine bw_ ?_ | refine ba_ ?_ _)); exact BK396.out) hb); replace HB := mk_ (below_step (us_ HB.out) hb); obtain ⟨_, _, _, _, _, _, _, _, _, _, _, _, _, _, _, _, _, _⟩ := cells9_ BK388.out; obtain ⟨_, _, _, _, _, _⟩ := cells3_ BK396.out) | (have zz_ := z41_; clear zz_; (with_reducible refine gate_store (t := 37) (p := 4) rfl ?_); refine store_event (t := 37) (p := 4) (v := ?_) (w1 := ?_) ?hg ?ho ?hn ?hr ?_; (case ho => rfl); (case hg => rfl); (case hn => rfl); (case hr => first | (go_simp; done) | (go_simp; rfl)); intro w12560 hw; have n0_ : Aside0 (Kd.R (Kd.int .u8) 5 w12560 w.heap.size (fun _ => True) (.slice Ao3140394 t392.length co3140394) t392) := ⟨(by rw [hw]; exact (by (with_reducible repeat (first | apply Kd.R_alloc | apply Kd.R_drewN | apply Kd.R_drew)); exact Kd.R_mono (Kd.R_far9 (g := gb12960) (Kd.R_types HO394.out BK389.out (by decide)) (fun _ hk => hk.2) _ _ _ _ _ _ _ _ _) (fun _ hk => trivial)))⟩; have n1_ : Aside0 (w12560.heap[gb20840]? = some (.cells #[.int .i64 a0_0, .int .i64 a0_1, .int .i64 a0_2, .int .i64 a0_3, .int .i64 a0_4, .int .i64 a0_5, .bool a0_6, .bool a0_7, .slice A0_8 l0_8.length c0_8] 37 (0, 0))) := ⟨(by rw [hw]; exact (uf_ BK388.out))⟩; have n2_ : Aside0 (w12560.heap[gb12960]? = some (.cells #[.int .i64 0, .int .i64 0, .int .i64 0, .int .i64 0, .int .i64 0, .int .i64 0, .bool false, .bool false, .slice none 0 0] 37 (0, 0))) := ⟨(by rw [hw]; exact (by (with_reducible repeat (first | refine bn_ ?_ _ | refine bw_ ?_ | refine ba_ ?_ _)); with_reducible apply blk_put9; (with_reducible repeat (first | refine bn_ ?_ _ | refine bw_ ?_ | refine ba_ ?_ _)); exact BK389.out))⟩; have n3_ : Aside0 (w12560.heap[gb13560]? = some (.cells #[.int .i64 t390, .int .i64 t391, .slice Ao3140394 t392.length co3140394] 44 (0, 0))) := ⟨(by rw [hw]; exact (uf_ BK396.out))⟩; have n4_ : Aside0 (Below w.heap.size w w12560) := ⟨(by rw [hw]; exact (us_ HB.out))⟩; clear hw; clear HO394; clear BK388; clear BK389; clear BK396; clear HB; have HO394 := n0_; have BK388 := n1_; have BK389 := n2_; have BK396 := n3_; have HB := n4_; clear n0_ n1_ n2_ n3_ n4_) | (have zz_ := z42_; clear zz_; (with_reducible refine gate_store (t := 37) (p := 4) rfl ?_); refine store_event (t := 37) (p := 4) (v := ?_) (w1 := ?_) ?hg ?ho ?hn ?hr ?_; (case ho => rfl); (case hg => rfl); (case hn => rfl); (case hr => first | (go_simp; done) | (go_simp; rfl)); intro w12560 hw; have n0_ : Aside0 (Kd.R (Kd.int .u8) 5 w12560 w.heap.size (fun _ => True) (.slice Ao3140394 t392.length co3140394) t392) := ⟨(by rw [hw]; exact (by (with_reducible repeat (first | apply Kd.R_alloc | apply Kd.R_drewN | apply Kd.R_drew)); exact Kd.R_mono (Kd.R_far9 (g := gb12960) (Kd.R_types HO394.out BK389.out (by decide)) (fun _ hk => hk.2) _ _ _ _ _ _ _ _ _) (fun _ hk => trivial)))⟩; have n1_ : Aside0 (w12560.heap[gb20840]? = some (.cells #[.int .i64 a0_0, .int .i64 a0_1, .int .i64 a0_2, .int .i64 a0_3, .int .i64 a0_4, .int .i64 a0_5, .bool true, .bool a0_7, .slice A0_8 l0_8.length c0_8] 37 (0, 0))) := ⟨(by rw [hw]; exact (uf_ BK388.out))⟩; have n2_ : Aside0 (w12560.heap[gb12960]? = some (.cells #[.int .i64 0, .int .i64 0, .int .i64 0, .int .i64 0, .int .i64 0, .int .i64 0, .bool false, .bool false, .slice none 0 0] 37 (0, 0))) := ⟨(by rw [hw]; exact (by (with_reducible repeat (first | refine bn_ ?_ _ | refine bw_ ?_ | refine ba_ ?_ _)); with_reducible apply blk_put9; (with_reducible repeat (first | refine bn_ ?_ _ | refine bw_ ?_ | refine ba_ ?_ _)); exact BK389.out))⟩; have n3_ : Aside0 (w12560.heap[gb13560]? = some (.cells #[.int .i64 t390, .int .i64 t391, .slice Ao3140394 t392.length co3140394] 44 (0, 0))) := ⟨(by rw [hw]; exact (uf_ BK396.out))⟩; have n4_ : Aside0 (Below w.heap.size w w12560) := ⟨(by rw [hw]; exact (us_ HB.out))⟩; clear hw; clear HO394; clear BK388; clear BK389; clear BK396; clear HB; have HO394 := n0_; have BK388 := n1_; have BK389 := n2_; have BK396 := n3_; have HB := n4_; clear n0_ n1_ n2_ n3_ n4_))
 iterate 7
  focus
   refine bodyPost_ret (results_ct rfl _ _ gb12960 37 #[.int .i64 0, .int .i64 0, .int .i64 0, .int .i64 0, .int .i64 0, .int .i64 0, .bool false, .bool false, .slice none 0 0] (0, 0) _ rfl (u_ BK389.out) Try.underlying37 rfl (by kernel_rfl)) rfl ?_
   exact ⟨_, by first | rfl | (simp [errW_none, errW_some] <;> rfl) | (simp [*, errW_none, errW_some] <;> rfl), by first | exact Kd.R_nil _ _ _ _ _ | exact Kd.N_nil _ _ _ _ _ | exact Kd.V_nil _ _ _ _ _ | exact Kd.Q_nil _ _ _ _ _ | exact Kd.S_nil _ _ _ _ _, us_ HB.out⟩
 ·have n0_ : Aside0 (Kd.R (Kd.int .u8) 5 (w24440.setCell ⟨gb13560, 0, none⟩ (.int .i64 2)) w.heap.size (fun _ => True) (.slice Ao3140394 t392.length co3140394) t392) := ⟨by (with_reducible repeat (first | apply Kd.R_alloc | apply Kd.R_drewN | apply Kd.R_drew)); exact Kd.R_mono (Kd.R_far (p := ⟨gb13560, 0, none⟩) (Kd.R_types HO394.out BK396.out (by decide)) (fun _ hk => hk.2) (.int .i64 2)) (fun _ hk => trivial)⟩
  have n1_ : Aside0 ((w24440.setCell ⟨gb13560, 0, none⟩ (.int .i64 2)).heap[gb20840]? = some (.cells #[.int .i64 a0_0, .int .i64 a0_1, .int .i64 a0_2, .int .i64 a0_3, .int .i64 a0_4, .int .i64 a0_5, .bool false, .bool a0_7, .slice A0_8 l0_8.length c0_8] 37 (0, 0))) := ⟨uf_ BK388.out⟩
  have n2_ : Aside0 ((w24440.setCell ⟨gb13560, 0, none⟩ (.int .i64 2)).heap[gb12960]? = some (.cells #[.int .i64 0, .int .i64 0, .int .i64 0, .int .i64 0, .int .i64 0, .int .i64 0, .bool false, .bool false, .slice none 0 0] 37 (0, 0))) := ⟨uf_ BK389.out⟩
  have n3_ : Aside0 ((w24440.setCell ⟨gb13560, 0, none⟩ (.int .i64 2)).heap[gb13560]? = some (.cells #[.int .i64 2, .int .i64 t391, .slice Ao3140394 t392.length co3140394] 44 (0, 0))) := ⟨by (with_reducible repeat (first | refine bn_ ?_ _ | refine bw_ ?_ | refine ba_ ?_ _)); refine blk_put (cs := #[.int .i64 t390, .int .i64 t391, .slice Ao3140394 t392.length co3140394]) ?_ 0 _ rfl; (with_reducible repeat (first | refine bn_ ?_ _ | refine bw_ ?_ | refine ba_ ?_ _)); exact BK396.out⟩
  have n4_ : Aside0 (Below w.heap.size w (w24440.setCell ⟨gb13560, 0, none⟩ (.int .i64 2))) := ⟨us_ HB.out⟩
  (try clear HO394)
  (try clear BK388)
  (try clear BK389)
  (try clear BK396)
  (try clear HB)
  generalize (w24440.setCell ⟨gb13560, 0, none⟩ (.int .i64 2)) = w24720 at n0_ n1_ n2_ n3_ n4_ ⊢
  have HO394 := n0_
  have BK388 := n1_
  have BK389 := n2_
  have BK396 := n3_
  have HB := n4_
  clear n0_ n1_ n2_ n3_ n4_
  have n0_ := mk_ (Kd.R_drew HO394.out)
  have n1_ := mk_ (blk_drew BK388.out)
  have n2_ := mk_ (blk_drew BK389.out)
  have n3_ := mk_ (blk_drew BK396.out)
  have n4_ := mk_ (below_drew1 HB.out)
  clear HO394
  clear BK388
  clear BK389
  clear BK396
  clear HB
  have HO394 := n0_
  have BK388 := n1_
  have BK389 := n2_
  have BK396 := n3_
  have HB := n4_
  clear n0_ n1_ n2_ n3_ n4_
  refine start_ (n := 10) (S := fun w' => w'.cell? ⟨gb20840, 0, none⟩ = some (.int .i64 a0_0) ∧ w'.cell? ⟨gb20840, 1, none⟩ = some (.int .i64 a0_1) ∧ w'.cell? ⟨gb20840, 2, none⟩ = some (.int .i64 a0_2) ∧ w'.cell? ⟨gb20840, 3, none⟩ = some (.int .i64 a0_3) ∧ w'.cell? ⟨gb20840, 4, none⟩ = some (.int .i64 a0_4) ∧ w'.cell? ⟨gb20840, 5, none⟩ = some (.int .i64 a0_5) ∧ w'.cell? ⟨gb20840, 6, none⟩ = some (.bool false) ∧ w'.cell? ⟨gb20840, 7, none⟩ = some (.bool a0_7) ∧ w'.cell? ⟨gb20840, 8, none⟩ = some (.slice A0_8 l0_8.length c0_8) ∧ w'.cell? ⟨gb13560, 0, none⟩ = some (.int .i64 2) ∧ w'.cell? ⟨gb13560, 1, none⟩ = some (.int .i64 t391) ∧ w'.cell? ⟨gb13560, 2, none⟩ = some (.slice Ao3140394 t392.length co3140394)) (ds := []) #[F_, F_, F_, F_, F_, F_, F_, F_, F_, F_] (by kernel_rfl) rfl rfl ⟨(blk_cell BK388.out 0).trans rfl, (blk_cell BK388.out 1).trans rfl, (blk_cell BK388.out 2).trans rfl, (blk_cell BK388.out 3).trans rfl, (blk_cell BK388.out 4).trans rfl, (blk_cell BK388.out 5).trans rfl, (blk_cell BK388.out 6).trans rfl, (blk_cell BK388.out 7).trans rfl, (blk_cell BK388.out 8).trans rfl, (blk_cell BK396.out 0).trans rfl, (blk_cell BK396.out 1).trans rfl, (blk_cell BK396.out 2).trans rfl⟩ (fun hHeld => ?_); refine with_tabW spec_NoteEchoed.tab5 spec_NoteEchoed.bits5 (fun HT_ HW_ => ?_)
  generalize w24720.drew = w24760 at HO394 BK388 BK389 BK396 HB hHeld ⊢
  refine pure_ (i := 0) (N := some 48) (v := ?_) (a' := ?_) #[T_, F_, F_, F_, F_, F_, F_, F_, F_, F_] rfl rfl (any_of HT_.out (by kernel_rfl)) (fun _ _ _ h => h) (Or.inl ⟨by rfl, ?_⟩) ?_ ?_
  rotate_left
  ·intro w'
   go_simp
   with_reducible rfl
  rotate_left
  ·simp only [Act.put, la_, lz_, ls_, i64_w, i32_w]
   rfl
  refine pure_ (i := 1) (N := some 49) (v := ?_) (a' := ?_) #[T_, T_, F_, F_, F_, F_, F_, F_, F_, F_] rfl rfl (any_of HT_.out (by kernel_rfl)) (fun _ _ _ h => h) (Or.inl ⟨by rfl, ?_⟩) ?_ ?_
  rotate_left
  ·intro w'
   go_simp
   with_reducible rfl
  rotate_left
  ·simp only [Act.put, la_, lz_, ls_, i64_w, i32_w]
   rfl
  refine pure_ (i := 3) (N := some 51) (v := ?_) (a' := ?_) #[T_, T_, F_, T_, F_, F_, F_, F_, F_, F_] rfl rfl (any_of HT_.out (by kernel_rfl)) (fun _ _ _ h => h) (Or.inl ⟨by rfl, ?_⟩) ?_ ?_
  rotate_left
  ·intro w'
   go_simp
   with_reducible rfl
  rotate_left
  ·simp only [Act.put, la_, lz_, ls_, i64_w, i32_w]
   rfl
  refine take_ (i := 2) (N := some 50) (v := ?_) (a' := ?_) #[T_, T_, T_, T_, F_, F_, F_, F_, F_, F_] rfl rfl (take_ofW HT_.out HW_.out (by kernel_rfl)) (fun _ _ _ h => h) (Or.inl ⟨by rfl, ?_⟩) hHeld ?_ ?_
  rotate_left
  ·rintro w' ⟨s24402, s24800, s24801, s24802, s24803, s24804, s24805, s24806, s24807, s24808, s24809, s24810⟩
   go_simp
   with_reducible rfl
  rotate_left
  ·simp only [Act.put, la_, lz_, ls_, i64_w, i32_w]
   rfl
  refine take_ (i := 4) (N := some 52) (v := ?_) (a' := ?_) #[T_, T_, T_, T_, T_, F_, F_, F_, F_, F_] rfl rfl (take_ofW HT_.out HW_.out (by kernel_rfl)) (fun _ _ _ h => h) (Or.inl ⟨by rfl, ?_⟩) hHeld ?_ ?_
  rotate_left
  ·rintro w' ⟨s24402, s24800, s24801, s24802, s24803, s24804, s24805, s24806, s24807, s24808, s24809, s24810⟩
   go_simp
   with_reducible rfl
  rotate_left
  ·simp only [Act.put, la_, lz_, ls_, i64_w, i32_w]
   rfl
  refine take_ (i := 5) (N := some 53) (v := ?_) (a' := ?_) #[T_, T_, T_, T_, T_, T_, F_, F_, F_, F_] rfl rfl (take_ofW HT_.out HW_.out (by kernel_rfl)) (fun _ _ _ h => h) (Or.inl ⟨by rfl, ?_⟩) hHeld ?_ ?_
  rotate_left
  ·rintro w' ⟨s24402, s24800, s24801, s24802, s24803, s24804, s24805, s24806, s24807, s24808, s24809, s24810⟩
   go_simp
   with_reducible rfl
  rotate_left
  ·simp only [Act.put, la_, lz_, ls_, i64_w, i32_w]
   rfl
  refine one_ (i := 6) (N := some 54) #[T_, T_, T_, T_, T_, T_, T_, F_, F_, F_] rfl rfl (one_of HT_.out (by kernel_rfl)) (by decide) (fun K hK => ?_)
  refine goes_ Try.func61 (by kernel_rfl) rfl #[.agg #[.int .i64 2, .int .i64 t391, .slice Ao3140394 t392.length co3140394]] (by rfl) rfl rfl (by (try simp only [lm_, lo_, ln_]); try rfl) ?_
  with_reducible refine (spec_NoteBytes.calls k 2 t391 _ _ t392 t398 _ ?side1 ?side2 A44.out).mono ?_
  (case side1 => repeat (first | exact (Kd.R_reads' HO394.out).2.2 | (with_reducible refine Kd.C_alloc ?_ _) | (with_reducible refine Kd.C_drewN ?_ _) | (with_reducible refine Kd.C_drew ?_)))
  (case side2 => exact (Kd.R_reads' HO394.out).2.1)
  rintro e w25000 ⟨v25001, rfl, ho24402, hb⟩
  refine ⟨_, rfl, ?_⟩
  have n0_ := mk_ (Kd.R_elder' (Kd.ur_ HO394.out) (Kd.R_base ho24402) hb)
  have n1_ := mk_ (Kd.R_lower (Kd.R_new' ho24402 (Kd.R_lt (Kd.ur_ HO394.out))) (below_size (us_ HB.out)))
  have n2_ := mk_ (blk_below (u_ BK388.out) hb)
  have n3_ := mk_ (blk_below (u_ BK389.out) hb)
  have n4_ := mk_ (blk_below (u_ BK396.out) hb)
  have n5_ := mk_ (below_step (us_ HB.out) hb)
  clear HO394
  clear BK388
  clear BK389
  clear BK396
  clear HB
  have HO394 := n0_
  have HO400 := n1_
  have BK388 := n2_
  have BK389 := n3_
  have BK396 := n4_
  have HB := n5_
  clear n0_ n1_ n2_ n3_ n4_ n5_
  (try clear hb)
  (try clear hb2)
  (try clear hk)
  (try clear hi)
  (try clear ho24402)
  obtain ⟨Ao1100400, co1100400, eo1100400⟩ := Kd.R_slice HO400.out
  (first | subst eo1100400 | (injection eo1100400 with f1_ f2_ f3_; have f4_ := f1_.symm; have f5_ := f3_.symm; clear f1_ f2_ f3_; subst f4_; subst f5_))
  refine hK.out _ _ ⟨(blk_cell BK388.out 0).trans rfl, (blk_cell BK388.out 1).trans rfl, (blk_cell BK388.out 2).trans rfl, (blk_cell BK388.out 3).trans rfl, (blk_cell BK388.out 4).trans rfl, (blk_cell BK388.out 5).trans rfl, (blk_cell BK388.out 6).trans rfl, (blk_cell BK388.out 7).trans rfl, (blk_cell BK388.out 8).trans rfl, (blk_cell BK396.out 0).trans rfl, (blk_cell BK396.out 1).trans rfl, (blk_cell BK396.out 2).trans rfl⟩ (fun hHeld => ?_)
  clear hK K
  refine norm_ (a' := ?_) ?_ ?_
  rotate_left
  ·show Act.put _ (some 54) _ = _
   simp only [Act.put, la_, lz_, ls_, i64_w, i32_w]
   rfl
  refine pure_ (i := 7) (N := some 55) (v := ?_) (a' := ?_) #[T_, T_, T_, T_, T_, T_, T_, T_, F_, F_] rfl rfl (any_of HT_.out (by kernel_rfl)) (fun _ _ _ h => h) (Or.inl ⟨by rfl, ?_⟩) ?_ ?_
  rotate_left
  ·intro w'
   go_simp
   with_reducible rfl
  rotate_left
  ·simp only [Act.put, la_, lz_, ls_, i64_w, i32_w]
   rfl
  refine one_ (i := 8) (N := none) #[T_, T_, T_, T_, T_, T_, T_, T_, T_, F_] rfl rfl (one_of HT_.out (by kernel_rfl)) (by decide) (fun K hK => ?_)
  have hs14080 : w25000.cell? ⟨gb12960, 0, none⟩ = some (.int .i64 0) := (blk_cell BK389.out 0).trans rfl
  have hfs14080 := blk_frozen BK389.out 0
  have hns14080_0 := NB388_389.out
  have hns14080_2 := NB396_389.out
  have hms14080_0 := NB389_388.out
  have hms14080_2 := NB389_396.out
  have hs14240 : w25000.cell? ⟨gb12960, 1, none⟩ = some (.int .i64 0) := (blk_cell BK389.out 1).trans rfl
  have hfs14240 := blk_frozen BK389.out 1
  have hns14240_0 := NB388_389.out
  have hns14240_2 := NB396_389.out
  have hms14240_0 := NB389_388.out
  have hms14240_2 := NB389_396.out
  have hs14400 : w25000.cell? ⟨gb12960, 2, none⟩ = some (.int .i64 0) := (blk_cell BK389.out 2).trans rfl
  have hfs14400 := blk_frozen BK389.out 2
  have hns14400_0 := NB388_389.out
  have hns14400_2 := NB396_389.out
  have hms14400_0 := NB389_388.out
  have hms14400_2 := NB389_396.out
  have hs14560 : w25000.cell? ⟨gb12960, 3, none⟩ = some (.int .i64 0) := (blk_cell BK389.out 3).trans rfl
  have hfs14560 := blk_frozen BK389.out 3
  have hns14560_0 := NB388_389.out
  have hns14560_2 := NB396_389.out
  have hms14560_0 := NB389_388.out
  have hms14560_2 := NB389_396.out
  have hs14720 : w25000.cell? ⟨gb12960, 4, none⟩ = some (.int .i64 0) := (blk_cell BK389.out 4).trans rfl
  have hfs14720 := blk_frozen BK389.out 4
  have hns14720_0 := NB388_389.out
  have hns14720_2 := NB396_389.out
  have hms14720_0 := NB389_388.out
  have hms14720_2 := NB389_396.out
  have hs14880 : w25000.cell? ⟨gb12960, 5, none⟩ = some (.int .i64 0) := (blk_cell BK389.out 5).trans rfl
  have hfs14880 := blk_frozen BK389.out 5
  have hns14880_0 := NB388_389.out
  have hns14880_2 := NB396_389.out
  have hms14880_0 := NB389_388.out
  have hms14880_2 := NB389_396.out
  have hs15040 : w25000.cell? ⟨gb12960, 6, none⟩ = some (.bool false) := (blk_cell BK389.out 6).trans rfl
  have hfs15040 := blk_frozen BK389.out 6
  have hns15040_0 := NB388_389.out
  have hns15040_2 := NB396_389.out
  have hms15040_0 := NB389_388.out
  have hms15040_2 := NB389_396.out
  have hs15200 : w25000.cell? ⟨gb12960, 7, none⟩ = some (.bool false) := (blk_cell BK389.out 7).trans rfl
  have hfs15200 := blk_frozen BK389.out 7
  have hns15200_0 := NB388_389.out
  have hns15200_2 := NB396_389.out
  have hms15200_0 := NB389_388.out
  have hms15200_2 := NB389_396.out
  have hs15360 : w25000.cell? ⟨gb12960, 8, none⟩ = some (.slice none 0 0) := (blk_cell BK389.out 8).trans rfl
  have hfs15360 := blk_frozen BK389.out 8
  have hns15360_0 := NB388_389.out
  have hns15360_2 := NB396_389.out
  have hms15360_0 := NB389_388.out
  have hms15360_2 := NB389_396.out
  refine skip_ (w1 := ?_) (by rfl) rfl ?_ ?_
  rotate_left
  ·go_simp
   rfl
  refine hK.out _ _ ⟨((cell_far (p := ⟨gb12960, _, none⟩) NB388_389.out _).trans (((cell_far (p := ⟨gb12960, _, none⟩) NB388_389.out _).trans (((cell_far (p := ⟨gb12960, _, none⟩) NB388_389.out _).trans (((cell_far (p := ⟨gb12960, _, none⟩) NB388_389.out _).trans (((cell_far (p := ⟨gb12960, _, none⟩) NB388_389.out _).trans (((cell_far (p := ⟨gb12960, _, none⟩) NB388_389.out _).trans (((cell_far (p := ⟨gb12960, _, none⟩) NB388_389.out _).trans (((cell_far (p := ⟨gb12960, _, none⟩) NB388_389.out _).trans (((cell_far (p := ⟨gb12960, _, none⟩) NB388_389.out _).trans (hHeld.1)))))))))))))))))), ((cell_far (p := ⟨gb12960, _, none⟩) NB388_389.out _).trans (((cell_far (p := ⟨gb12960, _, none⟩) NB388_389.out _).trans (((cell_far (p := ⟨gb12960, _, none⟩) NB388_389.out _).trans (((cell_far (p := ⟨gb12960, _, none⟩) NB388_389.out _).trans (((cell_far (p := ⟨gb12960, _, none⟩) NB388_389.out _).trans (((cell_far (p := ⟨gb12960, _, none⟩) NB388_389.out _).trans (((cell_far (p := ⟨gb12960, _, none⟩) NB388_389.out _).trans (((cell_far (p := ⟨gb12960, _, none⟩) NB388_389.out _).trans (((cell_far (p := ⟨gb12960, _, none⟩) NB388_389.out _).trans (hHeld.2.1)))))))))))))))))), ((cell_far (p := ⟨gb12960, _, none⟩) NB388_389.out _).trans (((cell_far (p := ⟨gb12960, _, none⟩) NB388_389.out _).trans (((cell_far (p := ⟨gb12960, _, none⟩) NB388_389.out _).trans (((cell_far (p := ⟨gb12960, _, none⟩) NB388_389.out _).trans (((cell_far (p := ⟨gb12960, _, none⟩) NB388_389.out _).trans (((cell_far (p := ⟨gb12960, _, none⟩) NB388_389.out _).trans (((cell_far (p := ⟨gb12960, _, none⟩) NB388_389.out _).trans (((cell_far (p := ⟨gb12960, _, none⟩) NB388_389.out _).trans (((cell_far (p := ⟨gb12960, _, none⟩) NB388_389.out _).trans (hHeld.2.2.1)))))))))))))))))), ((cell_far (p := ⟨gb12960, _, none⟩) NB388_389.out _).trans (((cell_far (p := ⟨gb12960, _, none⟩) NB388_389.out _).trans (((cell_far (p := ⟨gb12960, _, none⟩) NB388_389.out _).trans (((cell_far (p := ⟨gb12960, _, none⟩) NB388_389.out _).trans (((cell_far (p := ⟨gb12960, _, none⟩) NB388_389.out _).trans (((cell_far (p := ⟨gb12960, _, none⟩) NB388_389.out _).trans (((cell_far (p := ⟨gb12960, _, none⟩) NB388_389.out _).trans (((cell_far (p := ⟨gb12960, _, none⟩) NB388_389.out _).trans (((cell_far (p := ⟨gb12960, _, none⟩) NB388_389.out _).trans (hHeld.2.2.2.1)))))))))))))))))), ((cell_far (p := ⟨gb12960, _, none⟩) NB388_389.out _).trans (((cell_far (p := ⟨gb12960, _, none⟩) NB388_389.out _).trans (((cell_far (p := ⟨gb12960, _, none⟩) NB388_389.out _).trans (((cell_far (p := ⟨gb12960, _, none⟩) NB388_389.out _).trans (((cell_far (p := ⟨gb12960, _, none⟩) NB388_389.out _).trans (((cell_far (p := ⟨gb12960, _, none⟩) NB388_389.out _).trans (((cell_far (p := ⟨gb12960, _, none⟩) NB388_389.out _).trans (((cell_far (p := ⟨gb12960, _, none⟩) NB388_389.out _).trans (((cell_far (p := ⟨gb12960, _, none⟩) NB388_389.out _).trans (hHeld.2.2.2.2.1)))))))))))))))))), ((cell_far (p := ⟨gb12960, _, none⟩) NB388_389.out _).trans (((cell_far (p := ⟨gb12960, _, none⟩) NB388_389.out _).trans (((cell_far (p := ⟨gb12960, _, none⟩) NB388_389.out _).trans (((cell_far (p := ⟨gb12960, _, none⟩) NB388_389.out _).trans (((cell_far (p := ⟨gb12960, _, none⟩) NB388_389.out _).trans (((cell_far (p := ⟨gb12960, _, none⟩) NB388_389.out _).trans (((cell_far (p := ⟨gb12960, _, none⟩) NB388_389.out _).trans (((cell_far (p := ⟨gb12960, _, none⟩) NB388_389.out _).trans (((cell_far (p := ⟨gb12960, _, none⟩) NB388_389.out _).trans (hHeld.2.2.2.2.2.1)))))))))))))))))), ((cell_far (p := ⟨gb12960, _, none⟩) NB388_389.out _).trans (((cell_far (p := ⟨gb12960, _, none⟩) NB388_389.out _).trans (((cell_far (p := ⟨gb12960, _, none⟩) NB388_389.out _).trans (((cell_far (p := ⟨gb12960, _, none⟩) NB388_389.out _).trans (((cell_far (p := ⟨gb12960, _, none⟩) NB388_389.out _).trans (((cell_far (p := ⟨gb12960, _, none⟩) NB388_389.out _).trans (((cell_far (p := ⟨gb12960, _, none⟩) NB388_389.out _).trans (((cell_far (p := ⟨gb12960, _, none⟩) NB388_389.out _).trans (((cell_far (p := ⟨gb12960, _, none⟩) NB388_389.out _).trans (hHeld.2.2.2.2.2.2.1)))))))))))))))))), ((cell_far (p := ⟨gb12960, _, none⟩) NB388_389.out _).trans (((cell_far (p := ⟨gb12960, _, none⟩) NB388_389.out _).trans (((cell_far (p := ⟨gb12960, _, none⟩) NB388_389.out _).trans (((cell_far (p := ⟨gb12960, _, none⟩) NB388_389.out _).trans (((cell_far (p := ⟨gb12960, _, none⟩) NB388_389.out _).trans (((cell_far (p := ⟨gb12960, _, none⟩) NB388_389.out _).trans (((cell_far (p := ⟨gb12960, _, none⟩) NB388_389.out _).trans (((cell_far (p := ⟨gb12960, _, none⟩) NB388_389.out _).trans (((cell_far (p := ⟨gb12960, _, none⟩) NB388_389.out _).trans (hHeld.2.2.2.2.2.2.2.1)))))))))))))))))), ((cell_far (p := ⟨gb12960, _, none⟩) NB388_389.out _).trans (((cell_far (p := ⟨gb12960, _, none⟩) NB388_389.out _).trans (((cell_far (p := ⟨gb12960, _, none⟩) NB388_389.out _).trans (((cell_far (p := ⟨gb12960, _, none⟩) NB388_389.out _).trans (((cell_far (p := ⟨gb12960, _, none⟩) NB388_389.out _).trans (((cell_far (p := ⟨gb12960, _, none⟩) NB388_389.out _).trans (((cell_far (p := ⟨gb12960, _, none⟩) NB388_389.out _).trans (((cell_far (p := ⟨gb12960, _, none⟩) NB388_389.out _).trans (((cell_far (p := ⟨gb12960, _, none⟩) NB388_389.out _).trans (hHeld.2.2.2.2.2.2.2.2.1)))))))))))))))))), ((cell_far (p := ⟨gb12960, _, none⟩) NB396_389.out _).trans (((cell_far (p := ⟨gb12960, _, none⟩) NB396_389.out _).trans (((cell_far (p := ⟨gb12960, _, none⟩) NB396_389.out _).trans (((cell_far (p := ⟨gb12960, _, none⟩) NB396_389.out _).trans (((cell_far (p := ⟨gb12960, _, none⟩) NB396_389.out _).trans (((cell_far (p := ⟨gb12960, _, none⟩) NB396_389.out _).trans (((cell_far (p := ⟨gb12960, _, none⟩) NB396_389.out _).trans (((cell_far (p := ⟨gb12960, _, none⟩) NB396_389.out _).trans (((cell_far (p := ⟨gb12960, _, none⟩) NB396_389.out _).trans (hHeld.2.2.2.2.2.2.2.2.2.1)))))))))))))))))), ((cell_far (p := ⟨gb12960, _, none⟩) NB396_389.out _).trans (((cell_far (p := ⟨gb12960, _, none⟩) NB396_389.out _).trans (((cell_far (p := ⟨gb12960, _, none⟩) NB396_389.out _).trans (((cell_far (p := ⟨gb12960, _, none⟩) NB396_389.out _).trans (((cell_far (p := ⟨gb12960, _, none⟩) NB396_389.out _).trans (((cell_far (p := ⟨gb12960, _, none⟩) NB396_389.out _).trans (((cell_far (p := ⟨gb12960, _, none⟩) NB396_389.out _).trans (((cell_far (p := ⟨gb12960, _, none⟩) NB396_389.out _).trans (((cell_far (p := ⟨gb12960, _, none⟩) NB396_389.out _).trans (hHeld.2.2.2.2.2.2.2.2.2.2.1)))))))))))))))))), ((cell_far (p := ⟨gb12960, _, none⟩) NB396_389.out _).trans (((cell_far (p := ⟨gb12960, _, none⟩) NB396_389.out _).trans (((cell_far (p := ⟨gb12960, _, none⟩) NB396_389.out _).trans (((cell_far (p := ⟨gb12960, _, none⟩) NB396_389.out _).trans (((cell_far (p := ⟨gb12960, _, none⟩) NB396_389.out _).trans (((cell_far (p := ⟨gb12960, _, none⟩) NB396_389.out _).trans (((cell_far (p := ⟨gb12960, _, none⟩) NB396_389.out _).trans (((cell_far (p := ⟨gb12960, _, none⟩) NB396_389.out _).trans (((cell_far (p := ⟨gb12960, _, none⟩) NB396_389.out _).trans (hHeld.2.2.2.2.2.2.2.2.2.2.2))))))))))))))))))⟩ (fun hHeld => ?_)
  clear hK K
  refine pure_ (i := 9) (N := some 5) (v := ?_) (a' := ?_) #[T_, T_, T_, T_, T_, T_, T_, T_, T_, T_] rfl rfl (any_of HT_.out (by kernel_rfl)) (fun _ _ _ h => h) (Or.inl ⟨by rfl, ?_⟩) ?_ ?_
  rotate_left
  ·intro w'
   go_simp
   with_reducible rfl
  rotate_left
  ·simp only [Act.put, la_, lz_, ls_, i64_w, i32_w]
   rfl
  refine done_ (done_of HT_.out (by kernel_rfl)) ?_
  try go_wp2
  refine bodyPost_ret (results_ct rfl _ _ gb12960 37 #[.int .i64 a1, .int .i64 a0_0, .int .i64 1, .int .i64 64, .int .i64 a0_4, .int .i64 0, .bool false, .bool false, .slice Ao1100400 t398.length co1100400] (0, 0) _ rfl (by (with_reducible repeat (first | refine bn_ ?_ _ | refine bw_ ?_ | refine ba_ ?_ _)); with_reducible apply blk_put9; (with_reducible repeat (first | refine bn_ ?_ _ | refine bw_ ?_ | refine ba_ ?_ _)); exact BK389.out) Try.underlying37 rfl (by kernel_rfl)) rfl ?_
  exact ⟨_, by first | rfl | (simp [errW_none, errW_some] <;> rfl) | (simp [*, errW_none, errW_some] <;> rfl), by (with_reducible repeat (first | apply Kd.R_alloc | apply Kd.R_drewN | apply Kd.R_drew)); exact Kd.R_mono (Kd.R_far9 (g := gb12960) (Kd.R_types HO400.out BK389.out (by decide)) (fun _ hk => hk.2) _ _ _ _ _ _ _ _ _) (fun _ hk => trivial), us_ HB.out⟩

/-! ### laws_sameBytes: function 21 -/
def laws_sameBytes.f (l0 : List Int) (l1 : List Int) : Option (Bool) := some ((strOfNums l0).toList == (strOfNums l1).toList)
set_option maxHeartbeats 8000000 in
set_option maxRecDepth 100000 in
theorem laws_sameBytes.calls (A0 : Option Addr) (c0 : Nat) (l0 : List Int) (A1 : Option Addr) (c1 : Nat) (l1 : List Int) (r : Bool) (w : World) (hr0 : Kd.C (Kd.int .u8) w A0 l0.length l0) (hc0 : l0.length ≤ c0) (hr1 : Kd.C (Kd.int .u8) w A1 l1.length l1) (hc1 : l1.length ≤ c1) (h : laws_sameBytes.f l0 l1 = some r) :
  Calls Try.prog 21 #[.slice A0 l0.length c0, .slice A1 l1.length c1] w fun e w' => e = .returned (.bool r) ∧ Drawn0 w w' := by
 have HR0 := mk_ hr0
 have HC0 := mk_ hc0
 clear hr0 hc0
 have HR1 := mk_ hr1
 have HC1 := mk_ hc1
 clear hr1 hc1
 have H : (some ((strOfNums l0).toList == (strOfNums l1).toList)) = some r := h
 clear h
 obtain rfl := Option.some.inj H
 have hcv3 := Kd.C_string (P := Try.prog) (A := A0) (c := c0) Try.underlying22 Try.underlying5 Try.underlying9 HR0.out
 have hcv4 := Kd.C_string (P := Try.prog) (A := A1) (c := c1) Try.underlying22 Try.underlying5 Try.underlying9 HR1.out
 go_enter Try.func21, Try.ntmps21
 go_wp2
 go_ret
 exact ⟨by first | rfl | (simp; done) | (simp [*]; done), by repeat (first | exact Drawn0.refl _ | apply Drawn0.step)⟩

/-! ### laws_samePacket: function 18 -/
def laws_samePacket.f (a0_0 : Int) (a0_1 : Int) (a0_2 : Int) (a0_3 : Int) (a0_4 : Int) (a0_5 : Int) (a0_6 : Bool) (a0_7 : Bool) (l0_8 : List Int) (a1_0 : Int) (a1_1 : Int) (a1_2 : Int) (a1_3 : Int) (a1_4 : Int) (a1_5 : Int) (a1_6 : Bool) (a1_7 : Bool) (l1_8 : List Int) : Option (Bool) := if a0_0 = a1_0 then (if a0_1 = a1_1 then (if a0_2 = a1_2 then (if a0_3 = a1_3 then (if a0_4 = a1_4 then (if a0_5 = a1_5 then (if (a0_6 == a1_6) = true then (if (a0_7 == a1_7) = true then ((laws_sameBytes.f l0_8 l1_8).bind fun t403 => (some t403)) else (some false)) else (some false)) else (some false)) else (some false)) else (some false)) else (some false)) else (some false)) else (some false)
set_option maxHeartbeats 8000000 in
set_option maxRecDepth 100000 in
theorem laws_samePacket.calls (a0_0 : Int) (a0_1 : Int) (a0_2 : Int) (a0_3 : Int) (a0_4 : Int) (a0_5 : Int) (a0_6 : Bool) (a0_7 : Bool) (A0_8 : Option Addr) (c0_8 : Nat) (l0_8 : List Int) (a1_0 : Int) (a1_1 : Int) (a1_2 : Int) (a1_3 : Int) (a1_4 : Int) (a1_5 : Int) (a1_6 : Bool) (a1_7 : Bool) (A1_8 : Option Addr) (c1_8 : Nat) (l1_8 : List Int) (r : Bool) (w : World) (hr0_8 : Kd.C (Kd.int .u8) w A0_8 l0_8.length l0_8) (hc0_8 : l0_8.length ≤ c0_8) (hr1_8 : Kd.C (Kd.int .u8) w A1_8 l1_8.length l1_8) (hc1_8 : l1_8.length ≤ c1_8) (h : laws_samePacket.f a0_0 a0_1 a0_2 a0_3 a0_4 a0_5 a0_6 a0_7 l0_8 a1_0 a1_1 a1_2 a1_3 a1_4 a1_5 a1_6 a1_7 l1_8 = some r) :
  Calls Try.prog 18 #[.agg #[.int .i64 a0_0, .int .i64 a0_1, .int .i64 a0_2, .int .i64 a0_3, .int .i64 a0_4, .int .i64 a0_5, .bool a0_6, .bool a0_7, .slice A0_8 l0_8.length c0_8], .agg #[.int .i64 a1_0, .int .i64 a1_1, .int .i64 a1_2, .int .i64 a1_3, .int .i64 a1_4, .int .i64 a1_5, .bool a1_6, .bool a1_7, .slice A1_8 l1_8.length c1_8]] w fun e w' => e = .returned (.bool r) ∧ Below w.heap.size w w' := by
 have hu37 := Try.underlying37
 have HR0_8 := mk_ hr0_8
 have HC0_8 := mk_ hc0_8
 clear hr0_8 hc0_8
 have HR1_8 := mk_ hr1_8
 have HC1_8 := mk_ hc1_8
 clear hr1_8 hc1_8
 have HB := mk_ (Below.refl w.heap.size w)
 have H := h
 unfold laws_samePacket.f at H
 clear h
 by_cases c3 : a0_0 = a1_0
 rotate_left
 focus
  rw [if_neg c3] at H
  have c3b0 : (a0_0 == a1_0) = false := beq_eq_false_iff_ne.mpr c3
  have c3b1 : (a0_0 != a1_0) = true := bne_iff_ne.mpr c3
  obtain rfl := Option.some.inj H
 rotate_left
 focus
  rw [if_pos c3] at H
  have c3b0 : (a0_0 == a1_0) = true := beq_iff_eq.mpr c3
  have c3b1 : (a0_0 != a1_0) = false := bne_eq_false_iff_eq.mpr c3
  clear c3
  by_cases c4 : a0_1 = a1_1
  rotate_left
  focus
   rw [if_neg c4] at H
   have c4b0 : (a0_1 == a1_1) = false := beq_eq_false_iff_ne.mpr c4
   have c4b1 : (a0_1 != a1_1) = true := bne_iff_ne.mpr c4
   obtain rfl := Option.some.inj H
  rotate_left
  focus
   rw [if_pos c4] at H
   have c4b0 : (a0_1 == a1_1) = true := beq_iff_eq.mpr c4
   have c4b1 : (a0_1 != a1_1) = false := bne_eq_false_iff_eq.mpr c4
   clear c4
   by_cases c5 : a0_2 = a1_2
   rotate_left
   focus
    rw [if_neg c5] at H
    have c5b0 : (a0_2 == a1_2) = false := beq_eq_false_iff_ne.mpr c5
    have c5b1 : (a0_2 != a1_2) = true := bne_iff_ne.mpr c5
    obtain rfl := Option.some.inj H
   rotate_left
   focus
    rw [if_pos c5] at H
    have c5b0 : (a0_2 == a1_2) = true := beq_iff_eq.mpr c5
    have c5b1 : (a0_2 != a1_2) = false := bne_eq_false_iff_eq.mpr c5
    clear c5
    by_cases c6 : a0_3 = a1_3
    rotate_left
    focus
     rw [if_neg c6] at H
     have c6b0 : (a0_3 == a1_3) = false := beq_eq_false_iff_ne.mpr c6
     have c6b1 : (a0_3 != a1_3) = true := bne_iff_ne.mpr c6
     obtain rfl := Option.some.inj H
    rotate_left
    focus
     rw [if_pos c6] at H
     have c6b0 : (a0_3 == a1_3) = true := beq_iff_eq.mpr c6
     have c6b1 : (a0_3 != a1_3) = false := bne_eq_false_iff_eq.mpr c6
     clear c6
     by_cases c7 : a0_4 = a1_4
     rotate_left
     focus
      rw [if_neg c7] at H
      have c7b0 : (a0_4 == a1_4) = false := beq_eq_false_iff_ne.mpr c7
      have c7b1 : (a0_4 != a1_4) = true := bne_iff_ne.mpr c7
      obtain rfl := Option.some.inj H
     rotate_left
     focus
      rw [if_pos c7] at H
      have c7b0 : (a0_4 == a1_4) = true := beq_iff_eq.mpr c7
      have c7b1 : (a0_4 != a1_4) = false := bne_eq_false_iff_eq.mpr c7
      clear c7
      by_cases c8 : a0_5 = a1_5
      rotate_left
      focus
       rw [if_neg c8] at H
       have c8b0 : (a0_5 == a1_5) = false := beq_eq_false_iff_ne.mpr c8
       have c8b1 : (a0_5 != a1_5) = true := bne_iff_ne.mpr c8
       obtain rfl := Option.some.inj H
      rotate_left
      focus
       rw [if_pos c8] at H
       have c8b0 : (a0_5 == a1_5) = true := beq_iff_eq.mpr c8
       have c8b1 : (a0_5 != a1_5) = false := bne_eq_false_iff_eq.mpr c8
       clear c8
       by_cases c9 : (a0_6 == a1_6) = true
       rotate_left
       focus
        rw [if_neg c9] at H
        have c9b0 : (a0_6 == a1_6) = false := by simpa using c9
        (try (have c9b1 : decide (a0_6 = a1_6) = false := by simpa using c9))
        (try (have c9b2 : (a0_6 == a1_6) = false := by simpa using c9))
        (try (have c9b3 : ¬ (a0_6 = a1_6) := by simpa using c9))
        clear c9
        obtain rfl := Option.some.inj H
       rotate_left
       focus
        rw [if_pos c9] at H
        have c9b0 : (a0_6 == a1_6) = true := c9
        (try (have c9b1 : decide (a0_6 = a1_6) = true := by simpa using c9))
        (try (have c9b2 : (a0_6 == a1_6) = true := by simpa using c9))
        clear c9
        by_cases c10 : (a0_7 == a1_7) = true
        rotate_left
        focus
         rw [if_neg c10] at H
         have c10b0 : (a0_7 == a1_7) = false := by simpa using c10
         (try (have c10b1 : decide (a0_7 = a1_7) = false := by simpa using c10))
         (try (have c10b2 : (a0_7 == a1_7) = false := by simpa using c10))
         (try (have c10b3 : ¬ (a0_7 = a1_7) := by simpa using c10))
         clear c10
         obtain rfl := Option.some.inj H
        rotate_left
        focus
         rw [if_pos c10] at H
         have c10b0 : (a0_7 == a1_7) = true := c10
         (try (have c10b1 : decide (a0_7 = a1_7) = true := by simpa using c10))
         (try (have c10b2 : (a0_7 == a1_7) = true := by simpa using c10))
         clear c10
         replace H := Option.bind_eq_some_iff.mp H
         obtain ⟨t403, A110, H⟩ := H
         replace H : (some t403) = some r := H
         have A11 := mk_ A110
         clear A110
         obtain rfl := Option.some.inj H
        rotate_left
       rotate_left 2
      rotate_left 3
     rotate_left 4
    rotate_left 5
   rotate_left 6
  rotate_left 7
 rotate_left 8
 all_goals
  go_enter Try.func18, Try.ntmps18
  go_wp2_with (first | ((with_reducible refine gate_dst (N := 2) rfl ?_); refine box_event ?hg (N := 2) ?hd (cs := #[.int .i64 a0_0, .int .i64 a0_1, .int .i64 a0_2, .int .i64 a0_3, .int .i64 a0_4, .int .i64 a0_5, .bool a0_6, .bool a0_7, .slice A0_8 l0_8.length c0_8]) (t := 37) ?hr ?_; (case hd => rfl); (case hg => rfl); (case hr => first | (go_simp; done) | (go_simp; rfl)); intro gb20840 hg w20841 hbox hb; have n0_ := mk_ (below_step (ub_ HB.out) hb); have BK401 := mk_ (hbox); have GW401 := mk_ ((by rw [hg]; exact (below_size (ub_ HB.out)) : w.heap.size ≤ gb20840)); have GE401 := ge_ ((by rw [hg]; exact (below_size (ub_ HB.out)) : w.heap.size ≤ gb20840)); replace HB := n0_; clear n0_; clear hb hbox hg) | ((with_reducible refine gate_dst (N := 3) rfl ?_); refine box_event ?hg (N := 3) ?hd (cs := #[.int .i64 a1_0, .int .i64 a1_1, .int .i64 a1_2, .int .i64 a1_3, .int .i64 a1_4, .int .i64 a1_5, .bool a1_6, .bool a1_7, .slice A1_8 l1_8.length c1_8]) (t := 37) ?hr ?_; (case hd => rfl); (case hg => rfl); (case hr => first | (go_simp; done) | (go_simp; rfl)); intro gb26000 hg w26001 hbox hb; have n0_ := mk_ (blk_below (u_ BK401.out) hb); have n1_ := mk_ (below_step (us_ HB.out) hb); have BK402 := mk_ (hbox); have GW402 := mk_ ((by rw [hg]; exact (below_size (us_ HB.out)) : w.heap.size ≤ gb26000)); have GE402 := ge_ ((by rw [hg]; exact (below_size (us_ HB.out)) : w.heap.size ≤ gb26000)); have NB401_402 := nq_ ((by rw [hg]; exact Nat.ne_of_lt (blk_lt (u_ BK401.out)) : gb20840 ≠ gb26000)); have NB402_401 := nq_ ((by rw [hg]; exact Nat.ne_of_gt (blk_lt (u_ BK401.out)) : gb26000 ≠ gb20840)); replace BK401 := n0_; replace HB := n1_; clear n0_ n1_; clear hb hbox hg; have hnb6250401402 := NB401_402.out; have hnc6250401402 := NB402_401.out; obtain ⟨hcz6250401_0, hcz6250401_1, hcz6250401_2, hcz6250401_3, hcz6250401_4, hcz6250401_5, hcz6250401_6, hcz6250401_7, hcz6250401_8, hfz6250401_0, hfz6250401_1, hfz6250401_2, hfz6250401_3, hfz6250401_4, hfz6250401_5, hfz6250401_6, hfz6250401_7, hfz6250401_8⟩ := cells9_ BK401.out; obtain ⟨hcz6250402_0, hcz6250402_1, hcz6250402_2, hcz6250402_3, hcz6250402_4, hcz6250402_5, hcz6250402_6, hcz6250402_7, hcz6250402_8, hfz6250402_0, hfz6250402_1, hfz6250402_2, hfz6250402_3, hfz6250402_4, hfz6250402_5, hfz6250402_6, hfz6250402_7, hfz6250402_8⟩ := cells9_ BK402.out) | (go_at_call 21; (with_reducible refine (laws_sameBytes.calls _ _ l0_8 _ _ l1_8 t403 _ ?side1 ?side2 ?side3 ?side4 A11.out).mono ?_); (case side1 => repeat (first | exact (Kd.C_below HR0_8.out HB.out) | (with_reducible refine Kd.C_alloc ?_ _) | (with_reducible refine Kd.C_drewN ?_ _) | (with_reducible refine Kd.C_drew ?_))); (case side2 => exact HC0_8.out); (case side3 => repeat (first | exact (Kd.C_below HR1_8.out HB.out) | (with_reducible refine Kd.C_alloc ?_ _) | (with_reducible refine Kd.C_drewN ?_ _) | (with_reducible refine Kd.C_drew ?_))); (case side4 => exact HC1_8.out); rintro e w' ⟨rfl, ⟨nd, rfl⟩⟩))
  go_ret
  exact ⟨by first | rfl | (simp [errW_none, errW_some] <;> rfl) | (simp [*, errW_none, errW_some] <;> rfl), us_ HB.out⟩

/-! ### impl_NoteFault: function 22 -/
def impl_NoteFault.f (k : Nat) (a0_0 : Int) (a0_1 : Int) (a0_2 : Int) (a0_3 : Int) (a0_4 : Int) (a0_5 : Int) (a0_6 : Bool) (a0_7 : Bool) (l0_8 : List Int) : Option (Bool) := (impl_NoteFrom.f k l0_8).bind fun bt405 => (if bt405.2.2.2 = true then (if a0_2 = 1 then (some (decide (bt405.1 ≥ 3))) else (some false)) else (some false))
theorem impl_NoteFault.mono : ∀ a0 a1 a2 a3 a4 a5 a6 a7 a8 k, LeO (impl_NoteFault.f k a0 a1 a2 a3 a4 a5 a6 a7 a8) (impl_NoteFault.f (k + 1) a0 a1 a2 a3 a4 a5 a6 a7 a8) := by
 intro a0 a1 a2 a3 a4 a5 a6 a7 a8 k
 unfold impl_NoteFault.f
 repeat' first
   | (with_reducible exact impl_NoteFrom.mono _ _)
   | (with_reducible exact LeO.refl _)
   | (with_reducible exact LeO.none _)
   | (with_reducible refine LeO.ite ?_ ?_)
   | (with_reducible refine LeO.bind ?_ (fun _ => ?_))
   | exact impl_NoteFrom.mono _ _
   | exact LeO.none _
   | refine LeO.ite ?_ ?_
   | refine LeO.bind ?_ (fun _ => ?_)
set_option maxHeartbeats 8000000 in
set_option maxRecDepth 100000 in
theorem impl_NoteFault.calls (k : Nat) (a0_0 : Int) (a0_1 : Int) (a0_2 : Int) (a0_3 : Int) (a0_4 : Int) (a0_5 : Int) (a0_6 : Bool) (a0_7 : Bool) (A0_8 : Option Addr) (c0_8 : Nat) (l0_8 : List Int) (r : Bool) (w : World) (hr0_8 : Kd.C (Kd.int .u8) w A0_8 l0_8.length l0_8) (hc0_8 : l0_8.length ≤ c0_8) (h : impl_NoteFault.f k a0_0 a0_1 a0_2 a0_3 a0_4 a0_5 a0_6 a0_7 l0_8 = some r) :
  Calls Try.prog 22 #[.agg #[.int .i64 a0_0, .int .i64 a0_1, .int .i64 a0_2, .int .i64 a0_3, .int .i64 a0_4, .int .i64 a0_5, .bool a0_6, .bool a0_7, .slice A0_8 l0_8.length c0_8]] w fun e w' => e = .returned (.bool r) ∧ Below w.heap.size w w' := by
 have hu37 := Try.underlying37
 have hu44 := Try.underlying44
 have HR0_8 := mk_ hr0_8
 have HC0_8 := mk_ hc0_8
 clear hr0_8 hc0_8
 have HB := mk_ (Below.refl w.heap.size w)
 have H := h
 unfold impl_NoteFault.f at H
 clear h
 replace H := Option.bind_eq_some_iff.mp H
 obtain ⟨⟨t405, t406, t407, t410⟩, A20, H⟩ := H
 (try dsimp only at H)
 have A2 := mk_ A20
 clear A20
 by_cases c3 : t410 = true
 rotate_left
 focus
  replace c3 := Bool.eq_false_iff.mpr c3
  subst c3
  have H1 : (some false) = some r := by rw [if_neg (show ¬ (false = true) by decide)] at H; exact H
  clear H
  have H := H1
  clear H1
  obtain rfl := Option.some.inj H
 rotate_left
 focus
  subst c3
  rw [if_pos rfl] at H
  by_cases c4 : a0_2 = 1
  rotate_left
  focus
   rw [if_neg c4] at H
   have c4b0 : (a0_2 == 1) = false := beq_eq_false_iff_ne.mpr c4
   have c4b1 : (a0_2 != 1) = true := bne_iff_ne.mpr c4
   obtain rfl := Option.some.inj H
  rotate_left
  focus
   rw [if_pos c4] at H
   have c4b0 : (a0_2 == 1) = true := beq_iff_eq.mpr c4
   have c4b1 : (a0_2 != 1) = false := bne_eq_false_iff_eq.mpr c4
   clear c4
   obtain rfl := Option.some.inj H
  rotate_left
 rotate_left 2
 all_goals
  go_enter Try.func22, Try.ntmps22
  go_wp2_with (first | ((with_reducible refine gate_dst (N := 1) rfl ?_); refine box_event ?hg (N := 1) ?hd (cs := #[.int .i64 a0_0, .int .i64 a0_1, .int .i64 a0_2, .int .i64 a0_3, .int .i64 a0_4, .int .i64 a0_5, .bool a0_6, .bool a0_7, .slice A0_8 l0_8.length c0_8]) (t := 37) ?hr ?_; (case hd => rfl); (case hg => rfl); (case hr => first | (go_simp; done) | (go_simp; rfl)); intro gb1840 hg w1841 hbox hb; have n0_ := mk_ (below_step (ub_ HB.out) hb); have BK404 := mk_ (hbox); have GW404 := mk_ ((by rw [hg]; exact (below_size (ub_ HB.out)) : w.heap.size ≤ gb1840)); have GE404 := ge_ ((by rw [hg]; exact (below_size (ub_ HB.out)) : w.heap.size ≤ gb1840)); replace HB := n0_; clear n0_; clear hb hbox hg; obtain ⟨hcz210404_0, hcz210404_1, hcz210404_2, hcz210404_3, hcz210404_4, hcz210404_5, hcz210404_6, hcz210404_7, hcz210404_8, hfz210404_0, hfz210404_1, hfz210404_2, hfz210404_3, hfz210404_4, hfz210404_5, hfz210404_6, hfz210404_7, hfz210404_8⟩ := cells9_ BK404.out) | ((with_reducible refine gate_callee (f := 19) rfl ?_); refine goesL_ (some 8) rfl rfl Try.func19 (by kernel_rfl) rfl #[.slice A0_8 l0_8.length c0_8] rfl (by (try simp only [lm_, lo_, ln_]); try rfl) ?_; (with_reducible refine (impl_NoteFrom.calls k _ _ l0_8 t405 t406 t407 false _ ?side1 ?side2 A2.out).mono ?_); (case side1 => repeat (first | exact (Kd.C_below HR0_8.out HB.out) | (with_reducible refine Kd.C_alloc ?_ _) | (with_reducible refine Kd.C_drewN ?_ _) | (with_reducible refine Kd.C_drew ?_))); (case side2 => exact HC0_8.out); rintro e w26080 ⟨v26081, rfl, ho26082, hb⟩; refine ⟨_, rfl, ?_⟩; have HO409 := mk_ (Kd.R_lower ho26082 (below_size (us_ HB.out))); replace BK404 := mk_ (blk_below (u_ BK404.out) hb); replace HB := mk_ (below_step (us_ HB.out) hb)) | ((with_reducible refine gate_callee (f := 19) rfl ?_); refine goesL_ (some 8) rfl rfl Try.func19 (by kernel_rfl) rfl #[.slice A0_8 l0_8.length c0_8] rfl (by (try simp only [lm_, lo_, ln_]); try rfl) ?_; (with_reducible refine (impl_NoteFrom.calls k _ _ l0_8 t405 t406 t407 true _ ?side1 ?side2 A2.out).mono ?_); (case side1 => repeat (first | exact (Kd.C_below HR0_8.out HB.out) | (with_reducible refine Kd.C_alloc ?_ _) | (with_reducible refine Kd.C_drewN ?_ _) | (with_reducible refine Kd.C_drew ?_))); (case side2 => exact HC0_8.out); rintro e w26080 ⟨v26081, rfl, ho26082, hb⟩; refine ⟨_, rfl, ?_⟩; have HO409 := mk_ (Kd.R_lower ho26082 (below_size (us_ HB.out))); replace BK404 := mk_ (blk_below (u_ BK404.out) hb); replace HB := mk_ (below_step (us_ HB.out) hb)) | ((with_reducible refine gate_dst (N := 3) rfl ?_); refine box_event ?hg (N := 3) ?hd (cs := #[.int .i64 0, .int .i64 0, .slice none 0 0]) (t := 44) ?hr ?_; (case hd => rfl); (case hg => rfl); (case hr => first | (go_simp; done) | (go_simp; rfl)); intro gb26120 hg w26121 hbox hb; replace HO409 := mk_ (Kd.R_below (Kd.ur_ HO409.out) hb); have n1_ := mk_ (blk_below (u_ BK404.out) hb); have n2_ := mk_ (below_step (us_ HB.out) hb); have BK411 := mk_ (hbox); have GW411 := mk_ ((by rw [hg]; exact (below_size (us_ HB.out)) : w.heap.size ≤ gb26120)); have GE411 := ge_ ((by rw [hg]; exact (below_size (us_ HB.out)) : w.heap.size ≤ gb26120)); have NB404_411 := nq_ ((by rw [hg]; exact Nat.ne_of_lt (blk_lt (u_ BK404.out)) : gb1840 ≠ gb26120)); have NB411_404 := nq_ ((by rw [hg]; exact Nat.ne_of_gt (blk_lt (u_ BK404.out)) : gb26120 ≠ gb1840)); replace BK404 := n1_; replace HB := n2_; clear n1_ n2_; clear hb hbox hg; have hnb6280404411 := NB411_404.out; have hnc6280404411 := NB404_411.out; obtain ⟨hcz6280411_0, hcz6280411_1, hcz6280411_2, hfz6280411_0, hfz6280411_1, hfz6280411_2⟩ := cells3_ BK411.out; obtain ⟨Ao6280409, co6280409, eo6280409⟩ := Kd.R_slice HO409.out; subst eo6280409; obtain ⟨hcz6280404_0, hcz6280404_1, hcz6280404_2, hcz6280404_3, hcz6280404_4, hcz6280404_5, hcz6280404_6, hcz6280404_7, hcz6280404_8, hfz6280404_0, hfz6280404_1, hfz6280404_2, hfz6280404_3, hfz6280404_4, hfz6280404_5, hfz6280404_6, hfz6280404_7, hfz6280404_8⟩ := cells9_ BK404.out))
  go_ret
  exact ⟨by first | rfl | (simp [errW_none, errW_some] <;> rfl) | (simp [*, errW_none, errW_some] <;> rfl), us_ HB.out⟩

end Go.Proofs.Ytkkibccnpkbbjab.MFnNoteEchoed
