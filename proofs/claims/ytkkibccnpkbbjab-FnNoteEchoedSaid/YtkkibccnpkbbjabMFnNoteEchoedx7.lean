/- Functions that the law FnNoteEchoed reaches, each with the proof that the machine's call comes to just its answer; no conditions but those that each theorem states. Printed by a program of this session over the kit's print. -/
import Derived.Test.YtkkibccnpkbbjabMFnNoteEchoedx0
import Derived.Test.YtkkibccnpkbbjabMFnNoteEchoedx1
import Derived.Test.YtkkibccnpkbbjabMFnNoteEchoedx4
import Derived.Test.YtkkibccnpkbbjabMFnNoteEchoedx5
import Derived.Test.YtkkibccnpkbbjabMFnNoteEchoedx6
namespace Go.Proofs.Ytkkibccnpkbbjab.MFnNoteEchoed
open Go.RowKit Go.Proofs.YtkkibccnpkbbjabV.PrintWords Go.Proofs.YtkkibccnpkbbjabV.PrintLast Go.Proofs.YtkkibccnpkbbjabV.PrintMore
attribute [local go_sem] max2_int min2_int max_two min_two max_three min_three max_four min_four   -- for this text's walks alone
set_option linter.unusedVariables false
set_option linter.unusedSimpArgs false

/-! ### impl_PacketOk: function 20 -/
def impl_PacketOk.f (a0_0 : Int) (a0_1 : Int) (a0_2 : Int) (a0_3 : Int) (a0_4 : Int) (a0_5 : Int) (a0_6 : Bool) (a0_7 : Bool) (l0_8 : List Int) : Option (Bool) := (impl_word.f a0_0).bind fun t332 => (if t332 = true then ((impl_word.f a0_1).bind fun t333 => (if t333 = true then ((impl_in.f a0_2 0 255).bind fun t334 => (if t334 = true then ((impl_in.f a0_3 0 255).bind fun t335 => (if t335 = true then ((impl_in.f a0_4 0 255).bind fun t336 => (if t336 = true then ((impl_in.f a0_5 0 255).bind fun t337 => (if t337 = true then (if (l0_8.length : Int) ≤ 48 then (if a0_6 = true then (if (l0_8.length : Int) > 0 then (if a0_7 = true then (if a0_5 = 0 then (some (!a0_6)) else (some false)) else (some true)) else (some false)) else (if a0_7 = true then (if a0_5 = 0 then (some (!a0_6)) else (some false)) else (some true))) else (some false)) else (some false))) else (some false))) else (some false))) else (some false))) else (some false))) else (some false))
set_option maxHeartbeats 8000000 in
set_option maxRecDepth 100000 in
theorem impl_PacketOk.calls (a0_0 : Int) (a0_1 : Int) (a0_2 : Int) (a0_3 : Int) (a0_4 : Int) (a0_5 : Int) (a0_6 : Bool) (a0_7 : Bool) (A0_8 : Option Addr) (c0_8 : Nat) (l0_8 : List Int) (r : Bool) (w : World) (hr0_8 : Kd.C (Kd.int .u8) w A0_8 l0_8.length l0_8) (hc0_8 : l0_8.length ≤ c0_8) (h : impl_PacketOk.f a0_0 a0_1 a0_2 a0_3 a0_4 a0_5 a0_6 a0_7 l0_8 = some r) :
  Calls Try.prog 20 #[.agg #[.int .i64 a0_0, .int .i64 a0_1, .int .i64 a0_2, .int .i64 a0_3, .int .i64 a0_4, .int .i64 a0_5, .bool a0_6, .bool a0_7, .slice A0_8 l0_8.length c0_8]] w fun e w' => e = .returned (.bool r) ∧ Below w.heap.size w w' := by
 have hu37 := Try.underlying37
 have HR0_8 := mk_ hr0_8
 have HC0_8 := mk_ hc0_8
 clear hr0_8 hc0_8
 have HB := mk_ (Below.refl w.heap.size w)
 have H := h
 unfold impl_PacketOk.f at H
 clear h
 replace H := Option.bind_eq_some_iff.mp H
 obtain ⟨t332, A20, H⟩ := H
 (try dsimp only at H)
 have A2 := mk_ A20
 clear A20
 by_cases c3 : t332 = true
 rotate_left
 focus
  replace c3 := Bool.eq_false_iff.mpr c3
  subst c3
  have H1 : (some false) = some r := by rw [if_neg (show ¬ (false = true) by decide)] at H; exact H
  clear H
  have H := H1
  clear H1
  obtain rfl := Option.some.inj H
 rotate_left
 focus
  subst c3
  rw [if_pos rfl] at H
  replace H := Option.bind_eq_some_iff.mp H
  obtain ⟨t333, A40, H⟩ := H
  (try dsimp only at H)
  have A4 := mk_ A40
  clear A40
  by_cases c5 : t333 = true
  rotate_left
  focus
   replace c5 := Bool.eq_false_iff.mpr c5
   subst c5
   have H1 : (some false) = some r := by rw [if_neg (show ¬ (false = true) by decide)] at H; exact H
   clear H
   have H := H1
   clear H1
   obtain rfl := Option.some.inj H
  rotate_left
  focus
   subst c5
   rw [if_pos rfl] at H
   replace H := Option.bind_eq_some_iff.mp H
   obtain ⟨t334, A60, H⟩ := H
   (try dsimp only at H)
   have A6 := mk_ A60
   clear A60
   by_cases c7 : t334 = true
   rotate_left
   focus
    replace c7 := Bool.eq_false_iff.mpr c7
    subst c7
    have H1 : (some false) = some r := by rw [if_neg (show ¬ (false = true) by decide)] at H; exact H
    clear H
    have H := H1
    clear H1
    obtain rfl := Option.some.inj H
   rotate_left
   focus
    subst c7
    rw [if_pos rfl] at H
    replace H := Option.bind_eq_some_iff.mp H
    obtain ⟨t335, A80, H⟩ := H
    (try dsimp only at H)
    have A8 := mk_ A80
    clear A80
    by_cases c9 : t335 = true
    rotate_left
    focus
     replace c9 := Bool.eq_false_iff.mpr c9
     subst c9
     have H1 : (some false) = some r := by rw [if_neg (show ¬ (false = true) by decide)] at H; exact H
     clear H
     have H := H1
     clear H1
     obtain rfl := Option.some.inj H
    rotate_left
    focus
     subst c9
     rw [if_pos rfl] at H
     replace H := Option.bind_eq_some_iff.mp H
     obtain ⟨t336, A100, H⟩ := H
     (try dsimp only at H)
     have A10 := mk_ A100
     clear A100
     by_cases c11 : t336 = true
     rotate_left
     focus
      replace c11 := Bool.eq_false_iff.mpr c11
      subst c11
      have H1 : (some false) = some r := by rw [if_neg (show ¬ (false = true) by decide)] at H; exact H
      clear H
      have H := H1
      clear H1
      obtain rfl := Option.some.inj H
     rotate_left
     focus
      subst c11
      rw [if_pos rfl] at H
      replace H := Option.bind_eq_some_iff.mp H
      obtain ⟨t337, A120, H⟩ := H
      (try dsimp only at H)
      have A12 := mk_ A120
      clear A120
      by_cases c13 : t337 = true
      rotate_left
      focus
       replace c13 := Bool.eq_false_iff.mpr c13
       subst c13
       have H1 : (some false) = some r := by rw [if_neg (show ¬ (false = true) by decide)] at H; exact H
       clear H
       have H := H1
       clear H1
       obtain rfl := Option.some.inj H
      rotate_left
      focus
       subst c13
       rw [if_pos rfl] at H
       by_cases c14 : (l0_8.length : Int) ≤ 48
       rotate_left
       focus
        rw [if_neg c14] at H
        have c14b0 : decide ((l0_8.length : Int) ≤ 48) = false := decide_eq_false c14
        have c14b1 : decide (l0_8.length ≤ 48) = false := decide_eq_false (by omega)
        clear c14
        obtain rfl := Option.some.inj H
       rotate_left
       focus
        rw [if_pos c14] at H
        have c14b0 : decide ((l0_8.length : Int) ≤ 48) = true := decide_eq_true c14
        have c14b1 : decide (l0_8.length ≤ 48) = true := decide_eq_true (by omega)
        clear c14
        by_cases c15 : a0_6 = true
        rotate_left
        focus
         replace c15 := Bool.eq_false_iff.mpr c15
         subst c15
         rw [if_neg (show ¬ (false = true) by decide)] at H
         by_cases c27 : a0_7 = true
         rotate_left
         focus
          replace c27 := Bool.eq_false_iff.mpr c27
          subst c27
          have H1 : (some true) = some r := by rw [if_neg (show ¬ (false = true) by decide)] at H; exact H
          clear H
          have H := H1
          clear H1
          obtain rfl := Option.some.inj H
         rotate_left
         focus
          subst c27
          rw [if_pos rfl] at H
          by_cases c28 : a0_5 = 0
          rotate_left
          focus
           rw [if_neg c28] at H
           have c28b0 : (a0_5 == 0) = false := beq_eq_false_iff_ne.mpr c28
           have c28b1 : (a0_5 != 0) = true := bne_iff_ne.mpr c28
           obtain rfl := Option.some.inj H
          rotate_left
          focus
           rw [if_pos c28] at H
           have c28b0 : (a0_5 == 0) = true := beq_iff_eq.mpr c28
           have c28b1 : (a0_5 != 0) = false := bne_eq_false_iff_eq.mpr c28
           clear c28
           obtain rfl := Option.some.inj H
          rotate_left
         rotate_left 2
        rotate_left 3
        focus
         subst c15
         rw [if_pos rfl] at H
         by_cases c16 : (l0_8.length : Int) > 0
         rotate_left
         focus
          rw [if_neg c16] at H
          have c16b0 : decide (0 < (l0_8.length : Int)) = false := decide_eq_false c16
          have c16b1 : decide (0 < l0_8.length) = false := decide_eq_false (by omega)
          clear c16
          obtain rfl := Option.some.inj H
         rotate_left
         focus
          rw [if_pos c16] at H
          have c16b0 : decide (0 < (l0_8.length : Int)) = true := decide_eq_true c16
          have c16b1 : decide (0 < l0_8.length) = true := decide_eq_true (by omega)
          clear c16
          by_cases c17 : a0_7 = true
          rotate_left
          focus
           replace c17 := Bool.eq_false_iff.mpr c17
           subst c17
           have H1 : (some true) = some r := by rw [if_neg (show ¬ (false = true) by decide)] at H; exact H
           clear H
           have H := H1
           clear H1
           obtain rfl := Option.some.inj H
          rotate_left
          focus
           subst c17
           rw [if_pos rfl] at H
           by_cases c18 : a0_5 = 0
           rotate_left
           focus
            rw [if_neg c18] at H
            have c18b0 : (a0_5 == 0) = false := beq_eq_false_iff_ne.mpr c18
            have c18b1 : (a0_5 != 0) = true := bne_iff_ne.mpr c18
            obtain rfl := Option.some.inj H
           rotate_left
           focus
            rw [if_pos c18] at H
            have c18b0 : (a0_5 == 0) = true := beq_iff_eq.mpr c18
            have c18b1 : (a0_5 != 0) = false := bne_eq_false_iff_eq.mpr c18
            clear c18
            obtain rfl := Option.some.inj H
           rotate_left
          rotate_left 2
         rotate_left 3
        rotate_left 4
       rotate_left 7
      rotate_left 8
     rotate_left 9
    rotate_left 10
   rotate_left 11
  rotate_left 12
 rotate_left 13
 all_goals
  go_enter Try.func20, Try.ntmps20
 have z14_ := trivial
 rotate_left
 have z14_ := trivial
 rotate_left
 have z14_ := trivial
 rotate_left
 have z14_ := trivial
 rotate_left
 have z14_ := trivial
 rotate_left
 have z14_ := trivial
 rotate_left
 have z14_ := trivial
 rotate_left
 have z15_ := trivial
 rotate_left
 have z16_ := trivial
 rotate_left
 have z16_ := trivial
 rotate_left
 have z17_ := trivial
 rotate_left
 have z18_ := trivial
 rotate_left
 have z19_ := trivial
 rotate_left
 have z19_ := trivial
 rotate_left
 all_goals
  go_wp2_with (first | (have zz_ := z14_; clear zz_; (with_reducible refine gate_dst (N := 1) rfl ?_); refine box_event ?hg (N := 1) ?hd (cs := #[.int .i64 a0_0, .int .i64 a0_1, .int .i64 a0_2, .int .i64 a0_3, .int .i64 a0_4, .int .i64 a0_5, .bool a0_6, .bool a0_7, .slice A0_8 l0_8.length c0_8]) (t := 37) ?hr ?_; (case hd => rfl); (case hg => rfl); (case hr => first | (go_simp; done) | (go_simp; rfl)); intro gb1840 hg w1841 hbox hb; have n0_ := mk_ (below_step (ub_ HB.out) hb); have BK331 := mk_ (hbox); have GW331 := mk_ ((by rw [hg]; exact (below_size (ub_ HB.out)) : w.heap.size ≤ gb1840)); have GE331 := ge_ ((by rw [hg]; exact (below_size (ub_ HB.out)) : w.heap.size ≤ gb1840)); replace HB := n0_; clear n0_; clear hb hbox hg; obtain ⟨hcz210331_0, hcz210331_1, hcz210331_2, hcz210331_3, hcz210331_4, hcz210331_5, hcz210331_6, hcz210331_7, hcz210331_8, hfz210331_0, hfz210331_1, hfz210331_2, hfz210331_3, hfz210331_4, hfz210331_5, hfz210331_6, hfz210331_7, hfz210331_8⟩ := cells9_ BK331.out) | (have zz_ := z15_; clear zz_; (with_reducible refine gate_dst (N := 1) rfl ?_); refine box_event ?hg (N := 1) ?hd (cs := #[.int .i64 a0_0, .int .i64 a0_1, .int .i64 a0_2, .int .i64 a0_3, .int .i64 a0_4, .int .i64 a0_5, .bool false, .bool false, .slice A0_8 l0_8.length c0_8]) (t := 37) ?hr ?_; (case hd => rfl); (case hg => rfl); (case hr => first | (go_simp; done) | (go_simp; rfl)); intro gb1840 hg w1841 hbox hb; have n0_ := mk_ (below_step (ub_ HB.out) hb); have BK331 := mk_ (hbox); have GW331 := mk_ ((by rw [hg]; exact (below_size (ub_ HB.out)) : w.heap.size ≤ gb1840)); have GE331 := ge_ ((by rw [hg]; exact (below_size (ub_ HB.out)) : w.heap.size ≤ gb1840)); replace HB := n0_; clear n0_; clear hb hbox hg; obtain ⟨_, _, _, _, _, _, _, _, _, _, _, _, _, _, _, _, _, _⟩ := cells9_ BK331.out) | (have zz_ := z16_; clear zz_; (with_reducible refine gate_dst (N := 1) rfl ?_); refine box_event ?hg (N := 1) ?hd (cs := #[.int .i64 a0_0, .int .i64 a0_1, .int .i64 a0_2, .int .i64 a0_3, .int .i64 a0_4, .int .i64 a0_5, .bool false, .bool true, .slice A0_8 l0_8.length c0_8]) (t := 37) ?hr ?_; (case hd => rfl); (case hg => rfl); (case hr => first | (go_simp; done) | (go_simp; rfl)); intro gb1840 hg w1841 hbox hb; have n0_ := mk_ (below_step (ub_ HB.out) hb); have BK331 := mk_ (hbox); have GW331 := mk_ ((by rw [hg]; exact (below_size (ub_ HB.out)) : w.heap.size ≤ gb1840)); have GE331 := ge_ ((by rw [hg]; exact (below_size (ub_ HB.out)) : w.heap.size ≤ gb1840)); replace HB := n0_; clear n0_; clear hb hbox hg; obtain ⟨_, _, _, _, _, _, _, _, _, _, _, _, _, _, _, _, _, _⟩ := cells9_ BK331.out) | (have zz_ := z17_; clear zz_; (with_reducible refine gate_dst (N := 1) rfl ?_); refine box_event ?hg (N := 1) ?hd (cs := #[.int .i64 a0_0, .int .i64 a0_1, .int .i64 a0_2, .int .i64 a0_3, .int .i64 a0_4, .int .i64 a0_5, .bool true, .bool a0_7, .slice A0_8 l0_8.length c0_8]) (t := 37) ?hr ?_; (case hd => rfl); (case hg => rfl); (case hr => first | (go_simp; done) | (go_simp; rfl)); intro gb1840 hg w1841 hbox hb; have n0_ := mk_ (below_step (ub_ HB.out) hb); have BK331 := mk_ (hbox); have GW331 := mk_ ((by rw [hg]; exact (below_size (ub_ HB.out)) : w.heap.size ≤ gb1840)); have GE331 := ge_ ((by rw [hg]; exact (below_size (ub_ HB.out)) : w.heap.size ≤ gb1840)); replace HB := n0_; clear n0_; clear hb hbox hg; obtain ⟨_, _, _, _, _, _, _, _, _, _, _, _, _, _, _, _, _, _⟩ := cells9_ BK331.out) | (have zz_ := z18_; clear zz_; (with_reducible refine gate_dst (N := 1) rfl ?_); refine box_event ?hg (N := 1) ?hd (cs := #[.int .i64 a0_0, .int .i64 a0_1, .int .i64 a0_2, .int .i64 a0_3, .int .i64 a0_4, .int .i64 a0_5, .bool true, .bool false, .slice A0_8 l0_8.length c0_8]) (t := 37) ?hr ?_; (case hd => rfl); (case hg => rfl); (case hr => first | (go_simp; done) | (go_simp; rfl)); intro gb1840 hg w1841 hbox hb; have n0_ := mk_ (below_step (ub_ HB.out) hb); have BK331 := mk_ (hbox); have GW331 := mk_ ((by rw [hg]; exact (below_size (ub_ HB.out)) : w.heap.size ≤ gb1840)); have GE331 := ge_ ((by rw [hg]; exact (below_size (ub_ HB.out)) : w.heap.size ≤ gb1840)); replace HB := n0_; clear n0_; clear hb hbox hg; obtain ⟨_, _, _, _, _, _, _, _, _, _, _, _, _, _, _, _, _, _⟩ := cells9_ BK331.out) | (have zz_ := z19_; clear zz_; (with_reducible refine gate_dst (N := 1) rfl ?_); refine box_event ?hg (N := 1) ?hd (cs := #[.int .i64 a0_0, .int .i64 a0_1, .int .i64 a0_2, .int .i64 a0_3, .int .i64 a0_4, .int .i64 a0_5, .bool true, .bool true, .slice A0_8 l0_8.length c0_8]) (t := 37) ?hr ?_; (case hd => rfl); (case hg => rfl); (case hr => first | (go_simp; done) | (go_simp; rfl)); intro gb1840 hg w1841 hbox hb; have n0_ := mk_ (below_step (ub_ HB.out) hb); have BK331 := mk_ (hbox); have GW331 := mk_ ((by rw [hg]; exact (below_size (ub_ HB.out)) : w.heap.size ≤ gb1840)); have GE331 := ge_ ((by rw [hg]; exact (below_size (ub_ HB.out)) : w.heap.size ≤ gb1840)); replace HB := n0_; clear n0_; clear hb hbox hg; obtain ⟨hcz210331_0, hcz210331_1, hcz210331_2, hcz210331_3, hcz210331_4, hcz210331_5, hcz210331_6, hcz210331_7, hcz210331_8, hfz210331_0, hfz210331_1, hfz210331_2, hfz210331_3, hfz210331_4, hfz210331_5, hfz210331_6, hfz210331_7, hfz210331_8⟩ := cells9_ BK331.out) | ((with_reducible refine gate_callee (f := 49) rfl ?_); refine goesL_ (some 5) rfl rfl Try.func49 (by kernel_rfl) rfl #[.int .i64 a0_0] rfl (by (try simp only [lm_, lo_, ln_]); try rfl) ?_; (with_reducible refine (impl_word.calls a0_0 false _ A2.out).mono ?_); rintro e w' ⟨rfl, ⟨nd, rfl⟩⟩; refine ⟨_, rfl, ?_⟩) | ((with_reducible refine gate_callee (f := 49) rfl ?_); have hA_ := A2.out; refine goesL_ (some 5) rfl rfl Try.func49 (by kernel_rfl) rfl #[.int .i64 a0_0] rfl (by (try simp only [lm_, lo_, ln_]); try rfl) ?_; (with_reducible refine (impl_word.calls a0_0 true _ A2.out).mono ?_); rintro e w' ⟨rfl, ⟨nd, rfl⟩⟩; refine ⟨_, rfl, ?_⟩; clear hA_ A2) | (go_at_call 49; have hA_ := A4.out; (with_reducible refine (impl_word.calls a0_1 false _ A4.out).mono ?_); rintro e w' ⟨rfl, ⟨nd, rfl⟩⟩; clear hA_ A4) | (go_at_call 49; have hA_ := A4.out; (with_reducible refine (impl_word.calls a0_1 true _ A4.out).mono ?_); rintro e w' ⟨rfl, ⟨nd, rfl⟩⟩; clear hA_ A4) | (go_at_call 48; (with_reducible refine (impl_in.calls a0_2 0 255 false _ A6.out).mono ?_); rintro e w' ⟨rfl, ⟨nd, rfl⟩⟩) | (go_at_call 48; have hA_ := A6.out; (with_reducible refine (impl_in.calls a0_2 0 255 true _ A6.out).mono ?_); rintro e w' ⟨rfl, ⟨nd, rfl⟩⟩; clear hA_ A6) | (go_at_call 48; have hA_ := A8.out; (with_reducible refine (impl_in.calls a0_3 0 255 false _ A8.out).mono ?_); rintro e w' ⟨rfl, ⟨nd, rfl⟩⟩; clear hA_ A8) | (go_at_call 48; have hA_ := A8.out; (with_reducible refine (impl_in.calls a0_3 0 255 true _ A8.out).mono ?_); rintro e w' ⟨rfl, ⟨nd, rfl⟩⟩; clear hA_ A8) | (go_at_call 48; have hA_ := A10.out; (with_reducible refine (impl_in.calls a0_4 0 255 false _ A10.out).mono ?_); rintro e w' ⟨rfl, ⟨nd, rfl⟩⟩; clear hA_ A10) | (go_at_call 48; have hA_ := A10.out; (with_reducible refine (impl_in.calls a0_4 0 255 true _ A10.out).mono ?_); rintro e w' ⟨rfl, ⟨nd, rfl⟩⟩; clear hA_ A10) | (go_at_call 48; have hA_ := A12.out; (with_reducible refine (impl_in.calls a0_5 0 255 false _ A12.out).mono ?_); rintro e w' ⟨rfl, ⟨nd, rfl⟩⟩; clear hA_ A12) | (go_at_call 48; have hA_ := A12.out; (with_reducible refine (impl_in.calls a0_5 0 255 true _ A12.out).mono ?_); rintro e w' ⟨rfl, ⟨nd, rfl⟩⟩; clear hA_ A12))
  go_ret
  exact ⟨by first | rfl | (simp [errW_none, errW_some] <;> rfl) | (simp [*, errW_none, errW_some] <;> rfl), us_ HB.out⟩

/-! ### impl_noted: function 58 -/
def impl_noted.f (k : Nat) (a0 : Int) (a1_0 : Int) (a1_1 : Int) (a1_2 : Int) (a1_3 : Int) (a1_4 : Int) (a1_5 : Int) (a1_6 : Bool) (a1_7 : Bool) (l1_8 : List Int) (a2_0 : Int) (a2_1 : Int) (l2_2 : List Int) : Option (Int × Int × Int × Int × Int × Int × Bool × Bool × List Int) := (impl_NoteBytes.f k a2_0 a2_1 l2_2).bind fun t341 => (some (a0, a1_0, 1, 64, a1_4, 0, false, false, t341))
theorem impl_noted.mono : ∀ a0 a1 a2 a3 a4 a5 a6 a7 a8 a9 a10 a11 a12 k, LeO (impl_noted.f k a0 a1 a2 a3 a4 a5 a6 a7 a8 a9 a10 a11 a12) (impl_noted.f (k + 1) a0 a1 a2 a3 a4 a5 a6 a7 a8 a9 a10 a11 a12) := by
 intro a0 a1 a2 a3 a4 a5 a6 a7 a8 a9 a10 a11 a12 k
 unfold impl_noted.f
 repeat' first
   | (with_reducible exact impl_NoteBytes.mono _ _ _ _)
   | (with_reducible exact LeO.refl _)
   | (with_reducible exact LeO.none _)
   | (with_reducible refine LeO.ite ?_ ?_)
   | (with_reducible refine LeO.bind ?_ (fun _ => ?_))
   | exact impl_NoteBytes.mono _ _ _ _
   | exact LeO.none _
   | refine LeO.ite ?_ ?_
   | refine LeO.bind ?_ (fun _ => ?_)
def impl_noted.T1 : Bool × List (List Nat × List Nat) := (true, [([], []), ([], []), ([1], [1]), ([], []), ([3], [3]), ([], []), ([5], [5]), ([0, 2, 4, 6], [0, 2, 4, 6]), ([7, 6, 0, 1, 2, 3, 4, 5, 6, 7], [7])])
def impl_noted.B1 : List Nat := [0, 0, 2, 0, 8, 0, 32, 127, 255]
theorem impl_noted.tab1 : rtab .any (opsOf Try.f58 1) = impl_noted.T1 := by kernel_rfl
theorem impl_noted.bits1 : waitsOk impl_noted.T1.2 impl_noted.B1 = true := by kernel_rfl
set_option maxHeartbeats 8000000 in
set_option maxRecDepth 100000 in
theorem impl_noted.calls (k : Nat) (a0 : Int) (a1_0 : Int) (a1_1 : Int) (a1_2 : Int) (a1_3 : Int) (a1_4 : Int) (a1_5 : Int) (a1_6 : Bool) (a1_7 : Bool) (A1_8 : Option Addr) (c1_8 : Nat) (l1_8 : List Int) (a2_0 : Int) (a2_1 : Int) (A2_2 : Option Addr) (c2_2 : Nat) (l2_2 : List Int) (r1 : Int) (r2 : Int) (r3 : Int) (r4 : Int) (r5 : Int) (r6 : Int) (r7 : Bool) (r8 : Bool) (r9 : List Int) (w : World) (hr1_8 : Kd.C (Kd.int .u8) w A1_8 l1_8.length l1_8) (hc1_8 : l1_8.length ≤ c1_8) (hr2_2 : Kd.C (Kd.int .u8) w A2_2 l2_2.length l2_2) (hc2_2 : l2_2.length ≤ c2_2) (h : impl_noted.f k a0 a1_0 a1_1 a1_2 a1_3 a1_4 a1_5 a1_6 a1_7 l1_8 a2_0 a2_1 l2_2 = some (r1, r2, r3, r4, r5, r6, r7, r8, r9)) :
  Calls Try.prog 58 #[.int .i64 a0, .agg #[.int .i64 a1_0, .int .i64 a1_1, .int .i64 a1_2, .int .i64 a1_3, .int .i64 a1_4, .int .i64 a1_5, .bool a1_6, .bool a1_7, .slice A1_8 l1_8.length c1_8], .agg #[.int .i64 a2_0, .int .i64 a2_1, .slice A2_2 l2_2.length c2_2]] w fun e w' => ∃ v8_ : Value, e = .returned (.agg #[.int .i64 r1, .int .i64 r2, .int .i64 r3, .int .i64 r4, .int .i64 r5, .int .i64 r6, .bool r7, .bool r8, v8_]) ∧ Kd.R (Kd.int .u8) 5 w' w.heap.size (fun _ => True) v8_ r9 ∧ Below w.heap.size w w' := by
 have hu37 := Try.underlying37
 have hu44 := Try.underlying44
 have HR1_8 := mk_ hr1_8
 have HC1_8 := mk_ hc1_8
 clear hr1_8 hc1_8
 have HR2_2 := mk_ hr2_2
 have HC2_2 := mk_ hc2_2
 clear hr2_2 hc2_2
 have HB := mk_ (Below.refl w.heap.size w)
 have H := h
 unfold impl_noted.f at H
 clear h
 replace H := Option.bind_eq_some_iff.mp H
 obtain ⟨t341, A40, H⟩ := H
 replace H : (some (a0, a1_0, 1, 64, a1_4, 0, false, false, t341)) = some (r1, r2, r3, r4, r5, r6, r7, r8, r9) := H
 have A4 := mk_ A40
 clear A40
 simp only [Option.some.injEq, Prod.mk.injEq] at H
 obtain ⟨rfl, rfl, rfl, rfl, rfl, rfl, rfl, rfl, rfl⟩ := H
 go_enter Try.func58, Try.ntmps58
 try go_wp2_with (first | ((with_reducible refine gate_dst (N := 4) rfl ?_); refine box_event ?hg (N := 4) ?hd (cs := #[.int .i64 a1_0, .int .i64 a1_1, .int .i64 a1_2, .int .i64 a1_3, .int .i64 a1_4, .int .i64 a1_5, .bool a1_6, .bool a1_7, .slice A1_8 l1_8.length c1_8]) (t := 37) ?hr ?_; (case hd => rfl); (case hg => rfl); (case hr => first | (go_simp; done) | (go_simp; rfl)); intro gb338 hg w5 hbox hb; have n0_ := mk_ (below_step (ub_ HB.out) hb); have BK338 := mk_ (hbox); have GW338 := mk_ ((by rw [hg]; exact (below_size (ub_ HB.out)) : w.heap.size ≤ gb338)); have GE338 := ge_ ((by rw [hg]; exact (below_size (ub_ HB.out)) : w.heap.size ≤ gb338)); replace HB := n0_; clear n0_; clear hb hbox hg) | ((with_reducible refine gate_dst (N := 5) rfl ?_); refine box_event ?hg (N := 5) ?hd (cs := #[.int .i64 a2_0, .int .i64 a2_1, .slice A2_2 l2_2.length c2_2]) (t := 44) ?hr ?_; (case hd => rfl); (case hg => rfl); (case hr => first | (go_simp; done) | (go_simp; rfl)); intro gb339 hg w6 hbox hb; have n0_ := mk_ (blk_below (u_ BK338.out) hb); have n1_ := mk_ (below_step (us_ HB.out) hb); have BK339 := mk_ (hbox); have GW339 := mk_ ((by rw [hg]; exact (below_size (us_ HB.out)) : w.heap.size ≤ gb339)); have GE339 := ge_ ((by rw [hg]; exact (below_size (us_ HB.out)) : w.heap.size ≤ gb339)); have NB338_339 := nq_ ((by rw [hg]; exact Nat.ne_of_lt (blk_lt (u_ BK338.out)) : gb338 ≠ gb339)); have NB339_338 := nq_ ((by rw [hg]; exact Nat.ne_of_gt (blk_lt (u_ BK338.out)) : gb339 ≠ gb338)); replace BK338 := n0_; replace HB := n1_; clear n0_ n1_; clear hb hbox hg) | ((with_reducible refine gate_dst (N := 6) rfl ?_); refine box_event ?hg (N := 6) ?hd (cs := #[.int .i64 0, .int .i64 0, .int .i64 0, .int .i64 0, .int .i64 0, .int .i64 0, .bool false, .bool false, .slice none 0 0]) (t := 37) ?hr ?_; (case hd => rfl); (case hg => rfl); (case hr => first | (go_simp; done) | (go_simp; rfl)); intro gb340 hg w7 hbox hb; have n0_ := mk_ (blk_below (u_ BK338.out) hb); have n1_ := mk_ (blk_below (u_ BK339.out) hb); have n2_ := mk_ (below_step (us_ HB.out) hb); have BK340 := mk_ (hbox); have GW340 := mk_ ((by rw [hg]; exact (below_size (us_ HB.out)) : w.heap.size ≤ gb340)); have GE340 := ge_ ((by rw [hg]; exact (below_size (us_ HB.out)) : w.heap.size ≤ gb340)); have NB338_340 := nq_ ((by rw [hg]; exact Nat.ne_of_lt (blk_lt (u_ BK338.out)) : gb338 ≠ gb340)); have NB340_338 := nq_ ((by rw [hg]; exact Nat.ne_of_gt (blk_lt (u_ BK338.out)) : gb340 ≠ gb338)); have NB339_340 := nq_ ((by rw [hg]; exact Nat.ne_of_lt (blk_lt (u_ BK339.out)) : gb339 ≠ gb340)); have NB340_339 := nq_ ((by rw [hg]; exact Nat.ne_of_gt (blk_lt (u_ BK339.out)) : gb340 ≠ gb339)); replace BK338 := n0_; replace BK339 := n1_; replace HB := n2_; clear n0_ n1_ n2_; clear hb hbox hg))
 have n0_ := mk_ (blk_drew BK338.out)
 have n1_ := mk_ (blk_drew BK339.out)
 have n2_ := mk_ (blk_drew BK340.out)
 have n3_ := mk_ (below_drew1 HB.out)
 clear BK338
 clear BK339
 clear BK340
 clear HB
 have BK338 := n0_
 have BK339 := n1_
 have BK340 := n2_
 have HB := n3_
 clear n0_ n1_ n2_ n3_
 refine start_ (n := 9) (S := fun w' => w'.cell? ⟨gb338, 0, none⟩ = some (.int .i64 a1_0) ∧ w'.cell? ⟨gb338, 1, none⟩ = some (.int .i64 a1_1) ∧ w'.cell? ⟨gb338, 2, none⟩ = some (.int .i64 a1_2) ∧ w'.cell? ⟨gb338, 3, none⟩ = some (.int .i64 a1_3) ∧ w'.cell? ⟨gb338, 4, none⟩ = some (.int .i64 a1_4) ∧ w'.cell? ⟨gb338, 5, none⟩ = some (.int .i64 a1_5) ∧ w'.cell? ⟨gb338, 6, none⟩ = some (.bool a1_6) ∧ w'.cell? ⟨gb338, 7, none⟩ = some (.bool a1_7) ∧ w'.cell? ⟨gb338, 8, none⟩ = some (.slice A1_8 l1_8.length c1_8) ∧ w'.cell? ⟨gb339, 0, none⟩ = some (.int .i64 a2_0) ∧ w'.cell? ⟨gb339, 1, none⟩ = some (.int .i64 a2_1) ∧ w'.cell? ⟨gb339, 2, none⟩ = some (.slice A2_2 l2_2.length c2_2)) (ds := []) #[F_, F_, F_, F_, F_, F_, F_, F_, F_] (by kernel_rfl) rfl rfl ⟨(blk_cell BK338.out 0).trans rfl, (blk_cell BK338.out 1).trans rfl, (blk_cell BK338.out 2).trans rfl, (blk_cell BK338.out 3).trans rfl, (blk_cell BK338.out 4).trans rfl, (blk_cell BK338.out 5).trans rfl, (blk_cell BK338.out 6).trans rfl, (blk_cell BK338.out 7).trans rfl, (blk_cell BK338.out 8).trans rfl, (blk_cell BK339.out 0).trans rfl, (blk_cell BK339.out 1).trans rfl, (blk_cell BK339.out 2).trans rfl⟩ (fun hHeld => ?_); refine with_tabW impl_noted.tab1 impl_noted.bits1 (fun HT_ HW_ => ?_)
 generalize w7.drew = w8 at BK338 BK339 BK340 HB hHeld ⊢
 refine pure_ (i := 0) (N := some 7) (v := ?_) (a' := ?_) #[T_, F_, F_, F_, F_, F_, F_, F_, F_] rfl rfl (any_of HT_.out (by kernel_rfl)) (fun _ _ _ h => h) (Or.inl ⟨by rfl, ?_⟩) ?_ ?_
 rotate_left
 ·intro w'
  go_simp
  with_reducible rfl
 rotate_left
 ·simp only [Act.put, la_, lz_, ls_, i64_w, i32_w]
  rfl
 refine pure_ (i := 1) (N := some 8) (v := ?_) (a' := ?_) #[T_, T_, F_, F_, F_, F_, F_, F_, F_] rfl rfl (any_of HT_.out (by kernel_rfl)) (fun _ _ _ h => h) (Or.inl ⟨by rfl, ?_⟩) ?_ ?_
 rotate_left
 ·intro w'
  go_simp
  with_reducible rfl
 rotate_left
 ·simp only [Act.put, la_, lz_, ls_, i64_w, i32_w]
  rfl
 refine pure_ (i := 3) (N := some 10) (v := ?_) (a' := ?_) #[T_, T_, F_, T_, F_, F_, F_, F_, F_] rfl rfl (any_of HT_.out (by kernel_rfl)) (fun _ _ _ h => h) (Or.inl ⟨by rfl, ?_⟩) ?_ ?_
 rotate_left
 ·intro w'
  go_simp
  with_reducible rfl
 rotate_left
 ·simp only [Act.put, la_, lz_, ls_, i64_w, i32_w]
  rfl
 refine take_ (i := 2) (N := some 9) (v := ?_) (a' := ?_) #[T_, T_, T_, T_, F_, F_, F_, F_, F_] rfl rfl (take_ofW HT_.out HW_.out (by kernel_rfl)) (fun _ _ _ h => h) (Or.inl ⟨by rfl, ?_⟩) hHeld ?_ ?_
 rotate_left
 ·rintro w' ⟨s0, s1, s2, s3, s4, s5, s6, s7, s8, s9, s10, s11⟩
  go_simp
  with_reducible rfl
 rotate_left
 ·simp only [Act.put, la_, lz_, ls_, i64_w, i32_w]
  rfl
 refine take_ (i := 4) (N := some 11) (v := ?_) (a' := ?_) #[T_, T_, T_, T_, T_, F_, F_, F_, F_] rfl rfl (take_ofW HT_.out HW_.out (by kernel_rfl)) (fun _ _ _ h => h) (Or.inl ⟨by rfl, ?_⟩) hHeld ?_ ?_
 rotate_left
 ·rintro w' ⟨s0, s1, s2, s3, s4, s5, s6, s7, s8, s9, s10, s11⟩
  go_simp
  with_reducible rfl
 rotate_left
 ·simp only [Act.put, la_, lz_, ls_, i64_w, i32_w]
  rfl
 refine take_ (i := 5) (N := some 12) (v := ?_) (a' := ?_) #[T_, T_, T_, T_, T_, T_, F_, F_, F_] rfl rfl (take_ofW HT_.out HW_.out (by kernel_rfl)) (fun _ _ _ h => h) (Or.inl ⟨by rfl, ?_⟩) hHeld ?_ ?_
 rotate_left
 ·rintro w' ⟨s0, s1, s2, s3, s4, s5, s6, s7, s8, s9, s10, s11⟩
  go_simp
  with_reducible rfl
 rotate_left
 ·simp only [Act.put, la_, lz_, ls_, i64_w, i32_w]
  rfl
 refine one_ (i := 6) (N := some 13) #[T_, T_, T_, T_, T_, T_, T_, F_, F_] rfl rfl (one_of HT_.out (by kernel_rfl)) (by decide) (fun K hK => ?_)
 refine goes_ Try.func65 (by kernel_rfl) rfl #[.agg #[.int .i64 a2_0, .int .i64 a2_1, .slice A2_2 l2_2.length c2_2]] (by rfl) rfl rfl (by (try simp only [lm_, lo_, ln_]); try rfl) ?_
 with_reducible refine (impl_NoteBytes.calls k a2_0 a2_1 (fun k_ => k_ < w.heap.size) _ _ l2_2 t341 _ ?side1 A4.out).mono ?_
 (case side1 => exact Kd.V_mk HC2_2.out (Kd.F_below (Kd.C_F (Kd.heap_int .u8) HR2_2.out) (us_ HB.out)))
 rintro e w9 ⟨v342, rfl, ho0, hb⟩
 refine ⟨_, rfl, ?_⟩
 have n0_ := mk_ (Kd.R_lower (Kd.R_mono (ok' := fun k_ => True) ho0 (fun _ hk_ => trivial)) (below_size (us_ HB.out)))
 have n1_ := mk_ (blk_below (u_ BK338.out) hb)
 have n2_ := mk_ (blk_below (u_ BK339.out) hb)
 have n3_ := mk_ (blk_below (u_ BK340.out) hb)
 have n4_ := mk_ (below_step (us_ HB.out) hb)
 clear BK338
 clear BK339
 clear BK340
 clear HB
 have HO343 := n0_
 have BK338 := n1_
 have BK339 := n2_
 have BK340 := n3_
 have HB := n4_
 clear n0_ n1_ n2_ n3_ n4_
 (try clear hb)
 (try clear hb2)
 (try clear hk)
 (try clear hi)
 (try clear ho0)
 obtain ⟨Ao10, co10, eo10⟩ := Kd.R_slice HO343.out
 (first | subst eo10 | (injection eo10 with f1_ f2_ f3_; have f4_ := f1_.symm; have f5_ := f3_.symm; clear f1_ f2_ f3_; subst f4_; subst f5_))
 refine hK.out _ _ ⟨(blk_cell BK338.out 0).trans rfl, (blk_cell BK338.out 1).trans rfl, (blk_cell BK338.out 2).trans rfl, (blk_cell BK338.out 3).trans rfl, (blk_cell BK338.out 4).trans rfl, (blk_cell BK338.out 5).trans rfl, (blk_cell BK338.out 6).trans rfl, (blk_cell BK338.out 7).trans rfl, (blk_cell BK338.out 8).trans rfl, (blk_cell BK339.out 0).trans rfl, (blk_cell BK339.out 1).trans rfl, (blk_cell BK339.out 2).trans rfl⟩ (fun hHeld => ?_)
 clear hK K
 refine norm_ (a' := ?_) ?_ ?_
 rotate_left
 ·show Act.put _ (some 13) _ = _
  simp only [Act.put, la_, lz_, ls_, i64_w, i32_w]
  rfl
 refine pure_ (i := 7) (N := some 14) (v := ?_) (a' := ?_) #[T_, T_, T_, T_, T_, T_, T_, T_, F_] rfl rfl (any_of HT_.out (by kernel_rfl)) (fun _ _ _ h => h) (Or.inl ⟨by rfl, ?_⟩) ?_ ?_
 rotate_left
 ·intro w'
  go_simp
  with_reducible rfl
 rotate_left
 ·simp only [Act.put, la_, lz_, ls_, i64_w, i32_w]
  rfl
 refine one_ (i := 8) (N := none) #[T_, T_, T_, T_, T_, T_, T_, T_, T_] rfl rfl (one_of HT_.out (by kernel_rfl)) (by decide) (fun K hK => ?_)
 have hs11 : w9.cell? ⟨gb340, 0, none⟩ = some (.int .i64 0) := (blk_cell BK340.out 0).trans rfl
 have hfs11 := blk_frozen BK340.out 0
 have hns11_0 := NB338_340.out
 have hns11_1 := NB339_340.out
 have hms11_0 := NB340_338.out
 have hms11_1 := NB340_339.out
 have hs12 : w9.cell? ⟨gb340, 1, none⟩ = some (.int .i64 0) := (blk_cell BK340.out 1).trans rfl
 have hfs12 := blk_frozen BK340.out 1
 have hns12_0 := NB338_340.out
 have hns12_1 := NB339_340.out
 have hms12_0 := NB340_338.out
 have hms12_1 := NB340_339.out
 have hs13 : w9.cell? ⟨gb340, 2, none⟩ = some (.int .i64 0) := (blk_cell BK340.out 2).trans rfl
 have hfs13 := blk_frozen BK340.out 2
 have hns13_0 := NB338_340.out
 have hns13_1 := NB339_340.out
 have hms13_0 := NB340_338.out
 have hms13_1 := NB340_339.out
 have hs14 : w9.cell? ⟨gb340, 3, none⟩ = some (.int .i64 0) := (blk_cell BK340.out 3).trans rfl
 have hfs14 := blk_frozen BK340.out 3
 have hns14_0 := NB338_340.out
 have hns14_1 := NB339_340.out
 have hms14_0 := NB340_338.out
 have hms14_1 := NB340_339.out
 have hs15 : w9.cell? ⟨gb340, 4, none⟩ = some (.int .i64 0) := (blk_cell BK340.out 4).trans rfl
 have hfs15 := blk_frozen BK340.out 4
 have hns15_0 := NB338_340.out
 have hns15_1 := NB339_340.out
 have hms15_0 := NB340_338.out
 have hms15_1 := NB340_339.out
 have hs16 : w9.cell? ⟨gb340, 5, none⟩ = some (.int .i64 0) := (blk_cell BK340.out 5).trans rfl
 have hfs16 := blk_frozen BK340.out 5
 have hns16_0 := NB338_340.out
 have hns16_1 := NB339_340.out
 have hms16_0 := NB340_338.out
 have hms16_1 := NB340_339.out
 have hs17 : w9.cell? ⟨gb340, 6, none⟩ = some (.bool false) := (blk_cell BK340.out 6).trans rfl
 have hfs17 := blk_frozen BK340.out 6
 have hns17_0 := NB338_340.out
 have hns17_1 := NB339_340.out
 have hms17_0 := NB340_338.out
 have hms17_1 := NB340_339.out
 have hs18 : w9.cell? ⟨gb340, 7, none⟩ = some (.bool false) := (blk_cell BK340.out 7).trans rfl
 have hfs18 := blk_frozen BK340.out 7
 have hns18_0 := NB338_340.out
 have hns18_1 := NB339_340.out
 have hms18_0 := NB340_338.out
 have hms18_1 := NB340_339.out
 have hs19 : w9.cell? ⟨gb340, 8, none⟩ = some (.slice none 0 0) := (blk_cell BK340.out 8).trans rfl
 have hfs19 := blk_frozen BK340.out 8
 have hns19_0 := NB338_340.out
 have hns19_1 := NB339_340.out
 have hms19_0 := NB340_338.out
 have hms19_1 := NB340_339.out
 refine skip_ (w1 := ?_) (by rfl) rfl ?_ ?_
 rotate_left
 ·go_simp
  rfl
 refine hK.out _ _ ⟨((cell_far (p := ⟨gb340, _, none⟩) NB338_340.out _).trans (((cell_far (p := ⟨gb340, _, none⟩) NB338_340.out _).trans (((cell_far (p := ⟨gb340, _, none⟩) NB338_340.out _).trans (((cell_far (p := ⟨gb340, _, none⟩) NB338_340.out _).trans (((cell_far (p := ⟨gb340, _, none⟩) NB338_340.out _).trans (((cell_far (p := ⟨gb340, _, none⟩) NB338_340.out _).trans (((cell_far (p := ⟨gb340, _, none⟩) NB338_340.out _).trans (((cell_far (p := ⟨gb340, _, none⟩) NB338_340.out _).trans (((cell_far (p := ⟨gb340, _, none⟩) NB338_340.out _).trans (hHeld.1)))))))))))))))))), ((cell_far (p := ⟨gb340, _, none⟩) NB338_340.out _).trans (((cell_far (p := ⟨gb340, _, none⟩) NB338_340.out _).trans (((cell_far (p := ⟨gb340, _, none⟩) NB338_340.out _).trans (((cell_far (p := ⟨gb340, _, none⟩) NB338_340.out _).trans (((cell_far (p := ⟨gb340, _, none⟩) NB338_340.out _).trans (((cell_far (p := ⟨gb340, _, none⟩) NB338_340.out _).trans (((cell_far (p := ⟨gb340, _, none⟩) NB338_340.out _).trans (((cell_far (p := ⟨gb340, _, none⟩) NB338_340.out _).trans (((cell_far (p := ⟨gb340, _, none⟩) NB338_340.out _).trans (hHeld.2.1)))))))))))))))))), ((cell_far (p := ⟨gb340, _, none⟩) NB338_340.out _).trans (((cell_far (p := ⟨gb340, _, none⟩) NB338_340.out _).trans (((cell_far (p := ⟨gb340, _, none⟩) NB338_340.out _).trans (((cell_far (p := ⟨gb340, _, none⟩) NB338_340.out _).trans (((cell_far (p := ⟨gb340, _, none⟩) NB338_340.out _).trans (((cell_far (p := ⟨gb340, _, none⟩) NB338_340.out _).trans (((cell_far (p := ⟨gb340, _, none⟩) NB338_340.out _).trans (((cell_far (p := ⟨gb340, _, none⟩) NB338_340.out _).trans (((cell_far (p := ⟨gb340, _, none⟩) NB338_340.out _).trans (hHeld.2.2.1)))))))))))))))))), ((cell_far (p := ⟨gb340, _, none⟩) NB338_340.out _).trans (((cell_far (p := ⟨gb340, _, none⟩) NB338_340.out _).trans (((cell_far (p := ⟨gb340, _, none⟩) NB338_340.out _).trans (((cell_far (p := ⟨gb340, _, none⟩) NB338_340.out _).trans (((cell_far (p := ⟨gb340, _, none⟩) NB338_340.out _).trans (((cell_far (p := ⟨gb340, _, none⟩) NB338_340.out _).trans (((cell_far (p := ⟨gb340, _, none⟩) NB338_340.out _).trans (((cell_far (p := ⟨gb340, _, none⟩) NB338_340.out _).trans (((cell_far (p := ⟨gb340, _, none⟩) NB338_340.out _).trans (hHeld.2.2.2.1)))))))))))))))))), ((cell_far (p := ⟨gb340, _, none⟩) NB338_340.out _).trans (((cell_far (p := ⟨gb340, _, none⟩) NB338_340.out _).trans (((cell_far (p := ⟨gb340, _, none⟩) NB338_340.out _).trans (((cell_far (p := ⟨gb340, _, none⟩) NB338_340.out _).trans (((cell_far (p := ⟨gb340, _, none⟩) NB338_340.out _).trans (((cell_far (p := ⟨gb340, _, none⟩) NB338_340.out _).trans (((cell_far (p := ⟨gb340, _, none⟩) NB338_340.out _).trans (((cell_far (p := ⟨gb340, _, none⟩) NB338_340.out _).trans (((cell_far (p := ⟨gb340, _, none⟩) NB338_340.out _).trans (hHeld.2.2.2.2.1)))))))))))))))))), ((cell_far (p := ⟨gb340, _, none⟩) NB338_340.out _).trans (((cell_far (p := ⟨gb340, _, none⟩) NB338_340.out _).trans (((cell_far (p := ⟨gb340, _, none⟩) NB338_340.out _).trans (((cell_far (p := ⟨gb340, _, none⟩) NB338_340.out _).trans (((cell_far (p := ⟨gb340, _, none⟩) NB338_340.out _).trans (((cell_far (p := ⟨gb340, _, none⟩) NB338_340.out _).trans (((cell_far (p := ⟨gb340, _, none⟩) NB338_340.out _).trans (((cell_far (p := ⟨gb340, _, none⟩) NB338_340.out _).trans (((cell_far (p := ⟨gb340, _, none⟩) NB338_340.out _).trans (hHeld.2.2.2.2.2.1)))))))))))))))))), ((cell_far (p := ⟨gb340, _, none⟩) NB338_340.out _).trans (((cell_far (p := ⟨gb340, _, none⟩) NB338_340.out _).trans (((cell_far (p := ⟨gb340, _, none⟩) NB338_340.out _).trans (((cell_far (p := ⟨gb340, _, none⟩) NB338_340.out _).trans (((cell_far (p := ⟨gb340, _, none⟩) NB338_340.out _).trans (((cell_far (p := ⟨gb340, _, none⟩) NB338_340.out _).trans (((cell_far (p := ⟨gb340, _, none⟩) NB338_340.out _).trans (((cell_far (p := ⟨gb340, _, none⟩) NB338_340.out _).trans (((cell_far (p := ⟨gb340, _, none⟩) NB338_340.out _).trans (hHeld.2.2.2.2.2.2.1)))))))))))))))))), ((cell_far (p := ⟨gb340, _, none⟩) NB338_340.out _).trans (((cell_far (p := ⟨gb340, _, none⟩) NB338_340.out _).trans (((cell_far (p := ⟨gb340, _, none⟩) NB338_340.out _).trans (((cell_far (p := ⟨gb340, _, none⟩) NB338_340.out _).trans (((cell_far (p := ⟨gb340, _, none⟩) NB338_340.out _).trans (((cell_far (p := ⟨gb340, _, none⟩) NB338_340.out _).trans (((cell_far (p := ⟨gb340, _, none⟩) NB338_340.out _).trans (((cell_far (p := ⟨gb340, _, none⟩) NB338_340.out _).trans (((cell_far (p := ⟨gb340, _, none⟩) NB338_340.out _).trans (hHeld.2.2.2.2.2.2.2.1)))))))))))))))))), ((cell_far (p := ⟨gb340, _, none⟩) NB338_340.out _).trans (((cell_far (p := ⟨gb340, _, none⟩) NB338_340.out _).trans (((cell_far (p := ⟨gb340, _, none⟩) NB338_340.out _).trans (((cell_far (p := ⟨gb340, _, none⟩) NB338_340.out _).trans (((cell_far (p := ⟨gb340, _, none⟩) NB338_340.out _).trans (((cell_far (p := ⟨gb340, _, none⟩) NB338_340.out _).trans (((cell_far (p := ⟨gb340, _, none⟩) NB338_340.out _).trans (((cell_far (p := ⟨gb340, _, none⟩) NB338_340.out _).trans (((cell_far (p := ⟨gb340, _, none⟩) NB338_340.out _).trans (hHeld.2.2.2.2.2.2.2.2.1)))))))))))))))))), ((cell_far (p := ⟨gb340, _, none⟩) NB339_340.out _).trans (((cell_far (p := ⟨gb340, _, none⟩) NB339_340.out _).trans (((cell_far (p := ⟨gb340, _, none⟩) NB339_340.out _).trans (((cell_far (p := ⟨gb340, _, none⟩) NB339_340.out _).trans (((cell_far (p := ⟨gb340, _, none⟩) NB339_340.out _).trans (((cell_far (p := ⟨gb340, _, none⟩) NB339_340.out _).trans (((cell_far (p := ⟨gb340, _, none⟩) NB339_340.out _).trans (((cell_far (p := ⟨gb340, _, none⟩) NB339_340.out _).trans (((cell_far (p := ⟨gb340, _, none⟩) NB339_340.out _).trans (hHeld.2.2.2.2.2.2.2.2.2.1)))))))))))))))))), ((cell_far (p := ⟨gb340, _, none⟩) NB339_340.out _).trans (((cell_far (p := ⟨gb340, _, none⟩) NB339_340.out _).trans (((cell_far (p := ⟨gb340, _, none⟩) NB339_340.out _).trans (((cell_far (p := ⟨gb340, _, none⟩) NB339_340.out _).trans (((cell_far (p := ⟨gb340, _, none⟩) NB339_340.out _).trans (((cell_far (p := ⟨gb340, _, none⟩) NB339_340.out _).trans (((cell_far (p := ⟨gb340, _, none⟩) NB339_340.out _).trans (((cell_far (p := ⟨gb340, _, none⟩) NB339_340.out _).trans (((cell_far (p := ⟨gb340, _, none⟩) NB339_340.out _).trans (hHeld.2.2.2.2.2.2.2.2.2.2.1)))))))))))))))))), ((cell_far (p := ⟨gb340, _, none⟩) NB339_340.out _).trans (((cell_far (p := ⟨gb340, _, none⟩) NB339_340.out _).trans (((cell_far (p := ⟨gb340, _, none⟩) NB339_340.out _).trans (((cell_far (p := ⟨gb340, _, none⟩) NB339_340.out _).trans (((cell_far (p := ⟨gb340, _, none⟩) NB339_340.out _).trans (((cell_far (p := ⟨gb340, _, none⟩) NB339_340.out _).trans (((cell_far (p := ⟨gb340, _, none⟩) NB339_340.out _).trans (((cell_far (p := ⟨gb340, _, none⟩) NB339_340.out _).trans (((cell_far (p := ⟨gb340, _, none⟩) NB339_340.out _).trans (hHeld.2.2.2.2.2.2.2.2.2.2.2))))))))))))))))))⟩ (fun hHeld => ?_)
 clear hK K
 refine done_ (done_of HT_.out (by kernel_rfl)) ?_
 try go_wp2
 refine bodyPost_ret (results_cell_row rfl _ _ gb340 37 #[.int .i64 a0, .int .i64 a1_0, .int .i64 1, .int .i64 64, .int .i64 a1_4, .int .i64 0, .bool false, .bool false, .slice Ao10 t341.length co10] (0, 0) _ rfl (by (with_reducible repeat (first | refine bn_ ?_ _ | refine bw_ ?_ | refine ba_ ?_ _)); with_reducible apply blk_put9; (with_reducible repeat (first | refine bn_ ?_ _ | refine bw_ ?_ | refine ba_ ?_ _)); exact BK340.out) Try.underlying37 rfl (by kernel_rfl)) rfl ?_
 exact ⟨_, by first | rfl | (simp [errW_none, errW_some] <;> rfl) | (simp [*, errW_none, errW_some] <;> rfl), by (with_reducible repeat (first | apply Kd.R_alloc | apply Kd.R_drewN | apply Kd.R_drew)); exact Kd.R_mono (Kd.R_far9 (g := gb340) (Kd.R_types HO343.out BK340.out (by decide)) (fun _ hk => hk.2) _ _ _ _ _ _ _ _ _) (fun _ hk => trivial), us_ HB.out⟩

/-! ### impl_NoteEchoed: function 16 -/
def impl_NoteEchoed.f (k : Nat) (a0_0 : Int) (a0_1 : Int) (a0_2 : Int) (a0_3 : Int) (a0_4 : Int) (a0_5 : Int) (a0_6 : Bool) (a0_7 : Bool) (l0_8 : List Int) (a1 : Int) : Option (Int × Int × Int × Int × Int × Int × Bool × Bool × List Int × Bool) := (impl_NoteFrom.f k l0_8).bind fun bt346 => (if bt346.2.2.2 = true then ((impl_PacketOk.f a0_0 a0_1 a0_2 a0_3 a0_4 a0_5 a0_6 a0_7 l0_8).bind fun t353 => (if t353 = true then (if a0_1 = a1 then (if a0_5 = 0 then (if a0_6 = true then (some (0, 0, 0, 0, 0, 0, false, false, ([] : List Int), false)) else (if a0_2 = 1 then (if bt346.1 = 1 then ((impl_noted.f k a1 a0_0 a0_1 a0_2 a0_3 a0_4 a0_5 a0_6 a0_7 l0_8 2 bt346.2.1 bt346.2.2.1).bind fun bt354 => (some (bt354.1, bt354.2.1, bt354.2.2.1, bt354.2.2.2.1, bt354.2.2.2.2.1, bt354.2.2.2.2.2.1, bt354.2.2.2.2.2.2.1, bt354.2.2.2.2.2.2.2.1, bt354.2.2.2.2.2.2.2.2, true))) else (some (0, 0, 0, 0, 0, 0, false, false, ([] : List Int), false))) else (some (0, 0, 0, 0, 0, 0, false, false, ([] : List Int), false)))) else (some (0, 0, 0, 0, 0, 0, false, false, ([] : List Int), false))) else (some (0, 0, 0, 0, 0, 0, false, false, ([] : List Int), false))) else (some (0, 0, 0, 0, 0, 0, false, false, ([] : List Int), false)))) else (some (0, 0, 0, 0, 0, 0, false, false, ([] : List Int), false)))
theorem impl_NoteEchoed.mono : ∀ a0 a1 a2 a3 a4 a5 a6 a7 a8 a9 k, LeO (impl_NoteEchoed.f k a0 a1 a2 a3 a4 a5 a6 a7 a8 a9) (impl_NoteEchoed.f (k + 1) a0 a1 a2 a3 a4 a5 a6 a7 a8 a9) := by
 intro a0 a1 a2 a3 a4 a5 a6 a7 a8 a9 k
 unfold impl_NoteEchoed.f
 repeat' first
   | (with_reducible exact impl_NoteFrom.mono _ _)
   | (with_reducible exact impl_noted.mono _ _ _ _ _ _ _ _ _ _ _ _ _ _)
   | (with_reducible exact LeO.refl _)
   | (with_reducible exact LeO.none _)
   | (with_reducible refine LeO.ite ?_ ?_)
   | (with_reducible refine LeO.bind ?_ (fun _ => ?_))
   | exact impl_NoteFrom.mono _ _
   | exact impl_noted.mono _ _ _ _ _ _ _ _ _ _ _ _ _ _
   | exact LeO.none _
   | refine LeO.ite ?_ ?_
   | refine LeO.bind ?_ (fun _ => ?_)
set_option maxHeartbeats 8000000 in
set_option maxRecDepth 100000 in
theorem impl_NoteEchoed.calls (k : Nat) (a0_0 : Int) (a0_1 : Int) (a0_2 : Int) (a0_3 : Int) (a0_4 : Int) (a0_5 : Int) (a0_6 : Bool) (a0_7 : Bool) (A0_8 : Option Addr) (c0_8 : Nat) (l0_8 : List Int) (a1 : Int) (r1 : Int) (r2 : Int) (r3 : Int) (r4 : Int) (r5 : Int) (r6 : Int) (r7 : Bool) (r8 : Bool) (r9 : List Int) (r10 : Bool) (w : World) (hr0_8 : Kd.C (Kd.int .u8) w A0_8 l0_8.length l0_8) (hc0_8 : l0_8.length ≤ c0_8) (h : impl_NoteEchoed.f k a0_0 a0_1 a0_2 a0_3 a0_4 a0_5 a0_6 a0_7 l0_8 a1 = some (r1, r2, r3, r4, r5, r6, r7, r8, r9, r10)) :
  Calls Try.prog 16 #[.agg #[.int .i64 a0_0, .int .i64 a0_1, .int .i64 a0_2, .int .i64 a0_3, .int .i64 a0_4, .int .i64 a0_5, .bool a0_6, .bool a0_7, .slice A0_8 l0_8.length c0_8], .int .i64 a1] w fun e w' => ∃ v8_ : Value, e = .returned (.tuple #[.agg #[.int .i64 r1, .int .i64 r2, .int .i64 r3, .int .i64 r4, .int .i64 r5, .int .i64 r6, .bool r7, .bool r8, v8_], .bool r10]) ∧ Kd.R (Kd.int .u8) 5 w' w.heap.size (fun _ => True) v8_ r9 ∧ Below w.heap.size w w' := by
 have hu37 := Try.underlying37
 have hu44 := Try.underlying44
 have HR0_8 := mk_ hr0_8
 have HC0_8 := mk_ hc0_8
 clear hr0_8 hc0_8
 have HB := mk_ (Below.refl w.heap.size w)
 have H := h
 unfold impl_NoteEchoed.f at H
 clear h
 replace H := Option.bind_eq_some_iff.mp H
 obtain ⟨⟨t346, t347, t348, t351⟩, A30, H⟩ := H
 (try dsimp only at H)
 have A3 := mk_ A30
 clear A30
 by_cases c4 : t351 = true
 rotate_left
 focus
  replace c4 := Bool.eq_false_iff.mpr c4
  subst c4
  rw [if_neg (show ¬ (false = true) by decide)] at H
  simp only [Option.some.injEq, Prod.mk.injEq] at H
  obtain ⟨rfl, rfl, rfl, rfl, rfl, rfl, rfl, rfl, rfl, rfl⟩ := H
 rotate_left
 focus
  subst c4
  rw [if_pos rfl] at H
  replace H := Option.bind_eq_some_iff.mp H
  obtain ⟨t353, A50, H⟩ := H
  (try dsimp only at H)
  have A5 := mk_ A50
  clear A50
  by_cases c6 : t353 = true
  rotate_left
  focus
   replace c6 := Bool.eq_false_iff.mpr c6
   subst c6
   rw [if_neg (show ¬ (false = true) by decide)] at H
   simp only [Option.some.injEq, Prod.mk.injEq] at H
   obtain ⟨rfl, rfl, rfl, rfl, rfl, rfl, rfl, rfl, rfl, rfl⟩ := H
  rotate_left
  focus
   subst c6
   rw [if_pos rfl] at H
   by_cases c7 : a0_1 = a1
   rotate_left
   focus
    rw [if_neg c7] at H
    have c7b0 : (a0_1 == a1) = false := beq_eq_false_iff_ne.mpr c7
    have c7b1 : (a0_1 != a1) = true := bne_iff_ne.mpr c7
    simp only [Option.some.injEq, Prod.mk.injEq] at H
    obtain ⟨rfl, rfl, rfl, rfl, rfl, rfl, rfl, rfl, rfl, rfl⟩ := H
   rotate_left
   focus
    rw [if_pos c7] at H
    have c7b0 : (a0_1 == a1) = true := beq_iff_eq.mpr c7
    have c7b1 : (a0_1 != a1) = false := bne_eq_false_iff_eq.mpr c7
    clear c7
    by_cases c8 : a0_5 = 0
    rotate_left
    focus
     rw [if_neg c8] at H
     have c8b0 : (a0_5 == 0) = false := beq_eq_false_iff_ne.mpr c8
     have c8b1 : (a0_5 != 0) = true := bne_iff_ne.mpr c8
     simp only [Option.some.injEq, Prod.mk.injEq] at H
     obtain ⟨rfl, rfl, rfl, rfl, rfl, rfl, rfl, rfl, rfl, rfl⟩ := H
    rotate_left
    focus
     rw [if_pos c8] at H
     have c8b0 : (a0_5 == 0) = true := beq_iff_eq.mpr c8
     have c8b1 : (a0_5 != 0) = false := bne_eq_false_iff_eq.mpr c8
     clear c8
     by_cases c9 : a0_6 = true
     focus
      subst c9
      rw [if_pos rfl] at H
      simp only [Option.some.injEq, Prod.mk.injEq] at H
      obtain ⟨rfl, rfl, rfl, rfl, rfl, rfl, rfl, rfl, rfl, rfl⟩ := H
     rotate_left
     focus
      replace c9 := Bool.eq_false_iff.mpr c9
      subst c9
      rw [if_neg (show ¬ (false = true) by decide)] at H
      by_cases c25 : a0_2 = 1
      rotate_left
      focus
       rw [if_neg c25] at H
       have c25b0 : (a0_2 == 1) = false := beq_eq_false_iff_ne.mpr c25
       have c25b1 : (a0_2 != 1) = true := bne_iff_ne.mpr c25
       simp only [Option.some.injEq, Prod.mk.injEq] at H
       obtain ⟨rfl, rfl, rfl, rfl, rfl, rfl, rfl, rfl, rfl, rfl⟩ := H
      rotate_left
      focus
       rw [if_pos c25] at H
       have c25b0 : (a0_2 == 1) = true := beq_iff_eq.mpr c25
       have c25b1 : (a0_2 != 1) = false := bne_eq_false_iff_eq.mpr c25
       clear c25
       by_cases c26 : t346 = 1
       rotate_left
       focus
        rw [if_neg c26] at H
        have c26b0 : (t346 == 1) = false := beq_eq_false_iff_ne.mpr c26
        have c26b1 : (t346 != 1) = true := bne_iff_ne.mpr c26
        simp only [Option.some.injEq, Prod.mk.injEq] at H
        obtain ⟨rfl, rfl, rfl, rfl, rfl, rfl, rfl, rfl, rfl, rfl⟩ := H
       rotate_left
       focus
        rw [if_pos c26] at H
        have c26b0 : (t346 == 1) = true := beq_iff_eq.mpr c26
        have c26b1 : (t346 != 1) = false := bne_eq_false_iff_eq.mpr c26
        clear c26
        replace H := Option.bind_eq_some_iff.mp H
        obtain ⟨⟨t354, t355, t356, t357, t358, t359, t360, t361, t362⟩, A270, H⟩ := H
        replace H : (some (t354, t355, t356, t357, t358, t359, t360, t361, t362, true)) = some (r1, r2, r3, r4, r5, r6, r7, r8, r9, r10) := H
        have A27 := mk_ A270
        clear A270
        simp only [Option.some.injEq, Prod.mk.injEq] at H
        obtain ⟨rfl, rfl, rfl, rfl, rfl, rfl, rfl, rfl, rfl, rfl⟩ := H
       rotate_left
      rotate_left 2
     rotate_left 3
    rotate_left 4
   rotate_left 5
  rotate_left 6
 rotate_left 7
 all_goals
  go_enter Try.func16, Try.ntmps16
 have z20_ := trivial
 have z23_ := trivial
 rotate_left
 have z20_ := trivial
 have z24_ := trivial
 rotate_left
 have z20_ := trivial
 have z24_ := trivial
 rotate_left
 have z20_ := trivial
 have z24_ := trivial
 rotate_left
 have z21_ := trivial
 have z25_ := trivial
 rotate_left
 have z22_ := trivial
 have z26_ := trivial
 rotate_left
 have z22_ := trivial
 have z26_ := trivial
 rotate_left
 have z22_ := trivial
 have z27_ := trivial
 rotate_left
 all_goals
  go_wp2_with (first | (have zz_ := z20_; clear zz_; (with_reducible refine gate_dst (N := 2) rfl ?_); refine box_event ?hg (N := 2) ?hd (cs := #[.int .i64 a0_0, .int .i64 a0_1, .int .i64 a0_2, .int .i64 a0_3, .int .i64 a0_4, .int .i64 a0_5, .bool a0_6, .bool a0_7, .slice A0_8 l0_8.length c0_8]) (t := 37) ?hr ?_; (case hd => rfl); (case hg => rfl); (case hr => first | (go_simp; done) | (go_simp; rfl)); intro gb20840 hg w20841 hbox hb; have n0_ := mk_ (below_step (ub_ HB.out) hb); have BK344 := mk_ (hbox); have GW344 := mk_ ((by rw [hg]; exact (below_size (ub_ HB.out)) : w.heap.size ≤ gb20840)); have GE344 := ge_ ((by rw [hg]; exact (below_size (ub_ HB.out)) : w.heap.size ≤ gb20840)); replace HB := n0_; clear n0_; clear hb hbox hg) | (have zz_ := z21_; clear zz_; (with_reducible refine gate_dst (N := 2) rfl ?_); refine box_event ?hg (N := 2) ?hd (cs := #[.int .i64 a0_0, .int .i64 a0_1, .int .i64 a0_2, .int .i64 a0_3, .int .i64 a0_4, .int .i64 a0_5, .bool true, .bool a0_7, .slice A0_8 l0_8.length c0_8]) (t := 37) ?hr ?_; (case hd => rfl); (case hg => rfl); (case hr => first | (go_simp; done) | (go_simp; rfl)); intro gb20840 hg w20841 hbox hb; have n0_ := mk_ (below_step (ub_ HB.out) hb); have BK344 := mk_ (hbox); have GW344 := mk_ ((by rw [hg]; exact (below_size (ub_ HB.out)) : w.heap.size ≤ gb20840)); have GE344 := ge_ ((by rw [hg]; exact (below_size (ub_ HB.out)) : w.heap.size ≤ gb20840)); replace HB := n0_; clear n0_; clear hb hbox hg) | (have zz_ := z22_; clear zz_; (with_reducible refine gate_dst (N := 2) rfl ?_); refine box_event ?hg (N := 2) ?hd (cs := #[.int .i64 a0_0, .int .i64 a0_1, .int .i64 a0_2, .int .i64 a0_3, .int .i64 a0_4, .int .i64 a0_5, .bool false, .bool a0_7, .slice A0_8 l0_8.length c0_8]) (t := 37) ?hr ?_; (case hd => rfl); (case hg => rfl); (case hr => first | (go_simp; done) | (go_simp; rfl)); intro gb20840 hg w20841 hbox hb; have n0_ := mk_ (below_step (ub_ HB.out) hb); have BK344 := mk_ (hbox); have GW344 := mk_ ((by rw [hg]; exact (below_size (ub_ HB.out)) : w.heap.size ≤ gb20840)); have GE344 := ge_ ((by rw [hg]; exact (below_size (ub_ HB.out)) : w.heap.size ≤ gb20840)); replace HB := n0_; clear n0_; clear hb hbox hg) | ((with_reducible refine gate_dst (N := 4) rfl ?_); refine box_event ?hg (N := 4) ?hd (cs := #[.int .i64 0, .int .i64 0, .int .i64 0, .int .i64 0, .int .i64 0, .int .i64 0, .bool false, .bool false, .slice none 0 0]) (t := 37) ?hr ?_; (case hd => rfl); (case hg => rfl); (case hr => first | (go_simp; done) | (go_simp; rfl)); intro gb12960 hg w12961 hbox hb; have n0_ := mk_ (blk_below (u_ BK344.out) hb); have n1_ := mk_ (below_step (us_ HB.out) hb); have BK345 := mk_ (hbox); have GW345 := mk_ ((by rw [hg]; exact (below_size (us_ HB.out)) : w.heap.size ≤ gb12960)); have GE345 := ge_ ((by rw [hg]; exact (below_size (us_ HB.out)) : w.heap.size ≤ gb12960)); have NB344_345 := nq_ ((by rw [hg]; exact Nat.ne_of_lt (blk_lt (u_ BK344.out)) : gb20840 ≠ gb12960)); have NB345_344 := nq_ ((by rw [hg]; exact Nat.ne_of_gt (blk_lt (u_ BK344.out)) : gb12960 ≠ gb20840)); replace BK344 := n0_; replace HB := n1_; clear n0_ n1_; clear hb hbox hg; have hnb2990344345 := NB344_345.out; have hnc2990344345 := NB345_344.out; obtain ⟨_, _, _, _, _, _, _, _, _, _, _, _, _, _, _, _, _, _⟩ := cells9_ BK344.out) | ((with_reducible refine gate_callee (f := 19) rfl ?_); refine goesL_ (some 11) rfl rfl Try.func19 (by kernel_rfl) rfl #[.slice A0_8 l0_8.length c0_8] rfl (by (try simp only [lm_, lo_, ln_]); try rfl) ?_; (with_reducible refine (impl_NoteFrom.calls k _ _ l0_8 t346 t347 t348 false _ ?side1 ?side2 A3.out).mono ?_); (case side1 => repeat (first | exact (Kd.C_below HR0_8.out HB.out) | (with_reducible refine Kd.C_alloc ?_ _) | (with_reducible refine Kd.C_drewN ?_ _) | (with_reducible refine Kd.C_drew ?_))); (case side2 => exact HC0_8.out); rintro e w20880 ⟨v20881, rfl, ho20882, hb⟩; refine ⟨_, rfl, ?_⟩; have HO350 := mk_ (Kd.R_lower ho20882 (below_size (us_ HB.out))); replace BK344 := mk_ (blk_below (u_ BK344.out) hb); replace BK345 := mk_ (blk_below (u_ BK345.out) hb); replace HB := mk_ (below_step (us_ HB.out) hb)) | ((with_reducible refine gate_callee (f := 19) rfl ?_); refine goesL_ (some 11) rfl rfl Try.func19 (by kernel_rfl) rfl #[.slice A0_8 l0_8.length c0_8] rfl (by (try simp only [lm_, lo_, ln_]); try rfl) ?_; (with_reducible refine (impl_NoteFrom.calls k _ _ l0_8 t346 t347 t348 true _ ?side1 ?side2 A3.out).mono ?_); (case side1 => repeat (first | exact (Kd.C_below HR0_8.out HB.out) | (with_reducible refine Kd.C_alloc ?_ _) | (with_reducible refine Kd.C_drewN ?_ _) | (with_reducible refine Kd.C_drew ?_))); (case side2 => exact HC0_8.out); rintro e w20880 ⟨v20881, rfl, ho20882, hb⟩; refine ⟨_, rfl, ?_⟩; have HO350 := mk_ (Kd.R_lower ho20882 (below_size (us_ HB.out))); replace BK344 := mk_ (blk_below (u_ BK344.out) hb); replace BK345 := mk_ (blk_below (u_ BK345.out) hb); replace HB := mk_ (below_step (us_ HB.out) hb)) | ((with_reducible refine gate_dst (N := 6) rfl ?_); refine box_event ?hg (N := 6) ?hd (cs := #[.int .i64 0, .int .i64 0, .slice none 0 0]) (t := 44) ?hr ?_; (case hd => rfl); (case hg => rfl); (case hr => first | (go_simp; done) | (go_simp; rfl)); intro gb13560 hg w13561 hbox hb; replace HO350 := mk_ (Kd.R_below (Kd.ur_ HO350.out) hb); have n1_ := mk_ (blk_below (u_ BK344.out) hb); have n2_ := mk_ (blk_below (u_ BK345.out) hb); have n3_ := mk_ (below_step (us_ HB.out) hb); have BK352 := mk_ (hbox); have GW352 := mk_ ((by rw [hg]; exact (below_size (us_ HB.out)) : w.heap.size ≤ gb13560)); have GE352 := ge_ ((by rw [hg]; exact (below_size (us_ HB.out)) : w.heap.size ≤ gb13560)); have NB344_352 := nq_ ((by rw [hg]; exact Nat.ne_of_lt (blk_lt (u_ BK344.out)) : gb20840 ≠ gb13560)); have NB352_344 := nq_ ((by rw [hg]; exact Nat.ne_of_gt (blk_lt (u_ BK344.out)) : gb13560 ≠ gb20840)); have NB345_352 := nq_ ((by rw [hg]; exact Nat.ne_of_lt (blk_lt (u_ BK345.out)) : gb12960 ≠ gb13560)); have NB352_345 := nq_ ((by rw [hg]; exact Nat.ne_of_gt (blk_lt (u_ BK345.out)) : gb13560 ≠ gb12960)); replace BK344 := n1_; replace BK345 := n2_; replace HB := n3_; clear n1_ n2_ n3_; clear hb hbox hg; have hnb3140344352 := NB352_344.out; have hnc3140344352 := NB344_352.out; have hnb3140345352 := NB352_345.out; have hnc3140345352 := NB345_352.out; obtain ⟨hcz3140352_0, hcz3140352_1, hcz3140352_2, hfz3140352_0, hfz3140352_1, hfz3140352_2⟩ := cells3_ BK352.out; obtain ⟨Ao3140350, co3140350, eo3140350⟩ := Kd.R_slice HO350.out; subst eo3140350; obtain ⟨hcz3140344_0, hcz3140344_1, hcz3140344_2, hcz3140344_3, hcz3140344_4, hcz3140344_5, hcz3140344_6, hcz3140344_7, hcz3140344_8, hfz3140344_0, hfz3140344_1, hfz3140344_2, hfz3140344_3, hfz3140344_4, hfz3140344_5, hfz3140344_6, hfz3140344_7, hfz3140344_8⟩ := cells9_ BK344.out; obtain ⟨_, _, _, _, _, _, _, _, _, _, _, _, _, _, _, _, _, _⟩ := cells9_ BK345.out; obtain ⟨_, _, _, _, _, _, _, _, _, _, _, _, _, _, _, _, _, _⟩ := cells9_ BK344.out) | (have zz_ := z23_; clear zz_; (with_reducible refine gate_store (t := 37) (p := 4) rfl ?_); refine store_event (t := 37) (p := 4) (v := ?_) (w1 := ?_) ?hg ?ho ?hn ?hr ?_; (case ho => rfl); (case hg => rfl); (case hn => rfl); (case hr => first | (go_simp; done) | (go_simp; rfl)); intro w12560 hw; have n0_ : Aside0 (Kd.R (Kd.int .u8) 5 w12560 w.heap.size (fun _ => True) (.slice Ao3140350 t348.length co3140350) t348) := ⟨(by rw [hw]; exact (by (with_reducible repeat (first | apply Kd.R_alloc | apply Kd.R_drewN | apply Kd.R_drew)); exact Kd.R_mono (Kd.R_far9 (g := gb12960) (Kd.R_far (p := ⟨gb13560, 2, none⟩) (Kd.R_far (p := ⟨gb13560, 1, none⟩) (Kd.R_far (p := ⟨gb13560, 0, none⟩) (Kd.R_types (Kd.R_types HO350.out BK352.out (by decide)) BK345.out (by decide)) (fun _ hk => hk.1.2) (.int .i64 t346)) (fun _ hk => hk.1.2) (.int .i64 t347)) (fun _ hk => hk.1.2) (.slice Ao3140350 t348.length co3140350)) (fun _ hk => hk.2) _ _ _ _ _ _ _ _ _) (fun _ hk => trivial)))⟩; have n1_ : Aside0 (w12560.heap[gb20840]? = some (.cells #[.int .i64 a0_0, .int .i64 a0_1, .int .i64 a0_2, .int .i64 a0_3, .int .i64 a0_4, .int .i64 a0_5, .bool a0_6, .bool a0_7, .slice A0_8 l0_8.length c0_8] 37 (0, 0))) := ⟨(by rw [hw]; exact (uf_ BK344.out))⟩; have n2_ : Aside0 (w12560.heap[gb12960]? = some (.cells #[.int .i64 0, .int .i64 0, .int .i64 0, .int .i64 0, .int .i64 0, .int .i64 0, .bool false, .bool false, .slice none 0 0] 37 (0, 0))) := ⟨(by rw [hw]; exact (by (with_reducible repeat (first | refine bn_ ?_ _ | refine bw_ ?_ | refine ba_ ?_ _)); with_reducible apply blk_put9; (with_reducible repeat (first | refine bn_ ?_ _ | refine bw_ ?_ | refine ba_ ?_ _)); refine blk_far ?_ NB345_352.out _; (with_reducible repeat (first | refine bn_ ?_ _ | refine bw_ ?_ | refine ba_ ?_ _)); refine blk_far ?_ NB345_352.out _; (with_reducible repeat (first | refine bn_ ?_ _ | refine bw_ ?_ | refine ba_ ?_ _)); refine blk_far ?_ NB345_352.out _; (with_reducible repeat (first | refine bn_ ?_ _ | refine bw_ ?_ | refine ba_ ?_ _)); exact BK345.out))⟩; have n3_ : Aside0 (w12560.heap[gb13560]? = some (.cells #[.int .i64 t346, .int .i64 t347, .slice Ao3140350 t348.length co3140350] 44 (0, 0))) := ⟨(by rw [hw]; exact (by (with_reducible repeat (first | refine bn_ ?_ _ | refine bw_ ?_ | refine ba_ ?_ _)); refine blk_far ?_ NB352_345.out _; (with_reducible repeat (first | refine bn_ ?_ _ | refine bw_ ?_ | refine ba_ ?_ _)); refine blk_far ?_ NB352_345.out _; (with_reducible repeat (first | refine bn_ ?_ _ | refine bw_ ?_ | refine ba_ ?_ _)); refine blk_far ?_ NB352_345.out _; (with_reducible repeat (first | refine bn_ ?_ _ | refine bw_ ?_ | refine ba_ ?_ _)); refine blk_far ?_ NB352_345.out _; (with_reducible repeat (first | refine bn_ ?_ _ | refine bw_ ?_ | refine ba_ ?_ _)); refine blk_far ?_ NB352_345.out _; (with_reducible repeat (first | refine bn_ ?_ _ | refine bw_ ?_ | refine ba_ ?_ _)); refine blk_far ?_ NB352_345.out _; (with_reducible repeat (first | refine bn_ ?_ _ | refine bw_ ?_ | refine ba_ ?_ _)); refine blk_far ?_ NB352_345.out _; (with_reducible repeat (first | refine bn_ ?_ _ | refine bw_ ?_ | refine ba_ ?_ _)); refine blk_far ?_ NB352_345.out _; (with_reducible repeat (first | refine bn_ ?_ _ | refine bw_ ?_ | refine ba_ ?_ _)); refine blk_far ?_ NB352_345.out _; (with_reducible repeat (first | refine bn_ ?_ _ | refine bw_ ?_ | refine ba_ ?_ _)); refine blk_put (cs := #[.int .i64 t346, .int .i64 t347, .slice none 0 0]) ?_ 2 _ rfl; (with_reducible repeat (first | refine bn_ ?_ _ | refine bw_ ?_ | refine ba_ ?_ _)); refine blk_put (cs := #[.int .i64 t346, .int .i64 0, .slice none 0 0]) ?_ 1 _ rfl; (with_reducible repeat (first | refine bn_ ?_ _ | refine bw_ ?_ | refine ba_ ?_ _)); refine blk_put (cs := #[.int .i64 0, .int .i64 0, .slice none 0 0]) ?_ 0 _ rfl; (with_reducible repeat (first | refine bn_ ?_ _ | refine bw_ ?_ | refine ba_ ?_ _)); exact BK352.out))⟩; have n4_ : Aside0 (Below w.heap.size w w12560) := ⟨(by rw [hw]; exact (us_ HB.out))⟩; clear hw; clear HO350; clear BK344; clear BK345; clear BK352; clear HB; have HO350 := n0_; have BK344 := n1_; have BK345 := n2_; have BK352 := n3_; have HB := n4_; clear n0_ n1_ n2_ n3_ n4_) | (have zz_ := z24_; clear zz_; (with_reducible refine gate_store (t := 37) (p := 4) rfl ?_); refine store_event (t := 37) (p := 4) (v := ?_) (w1 := ?_) ?hg ?ho ?hn ?hr ?_; (case ho => rfl); (case hg => rfl); (case hn => rfl); (case hr => first | (go_simp; done) | (go_simp; rfl)); intro w12560 hw; have n0_ : Aside0 (Kd.R (Kd.int .u8) 5 w12560 w.heap.size (fun _ => True) (.slice Ao3140350 t348.length co3140350) t348) := ⟨(by rw [hw]; exact (by (with_reducible repeat (first | apply Kd.R_alloc | apply Kd.R_drewN | apply Kd.R_drew)); exact Kd.R_mono (Kd.R_far9 (g := gb12960) (Kd.R_types HO350.out BK345.out (by decide)) (fun _ hk => hk.2) _ _ _ _ _ _ _ _ _) (fun _ hk => trivial)))⟩; have n1_ : Aside0 (w12560.heap[gb20840]? = some (.cells #[.int .i64 a0_0, .int .i64 a0_1, .int .i64 a0_2, .int .i64 a0_3, .int .i64 a0_4, .int .i64 a0_5, .bool a0_6, .bool a0_7, .slice A0_8 l0_8.length c0_8] 37 (0, 0))) := ⟨(by rw [hw]; exact (uf_ BK344.out))⟩; have n2_ : Aside0 (w12560.heap[gb12960]? = some (.cells #[.int .i64 0, .int .i64 0, .int .i64 0, .int .i64 0, .int .i64 0, .int .i64 0, .bool false, .bool false, .slice none 0 0] 37 (0, 0))) := ⟨(by rw [hw]; exact (by (with_reducible repeat (first | refine bn_ ?_ _ | refine bw_ ?_ | refine ba_ ?_ _)); with_reducible apply blk_put9; (with_reducible repeat (first | refine bn_ ?_ _ | refine bw_ ?_ | refine ba_ ?_ _)); exact BK345.out))⟩; have n3_ : Aside0 (w12560.heap[gb13560]? = some (.cells #[.int .i64 t346, .int .i64 t347, .slice Ao3140350 t348.length co3140350] 44 (0, 0))) := ⟨(by rw [hw]; exact (uf_ BK352.out))⟩; have n4_ : Aside0 (Below w.heap.size w w12560) := ⟨(by rw [hw]; exact (us_ HB.out))⟩; clear hw; clear HO350; clear BK344; clear BK345; clear BK352; clear HB; have HO350 := n0_; have BK344 := n1_; have BK345 := n2_; have BK352 := n3_; have HB := n4_; clear n0_ n1_ n2_ n3_ n4_) | (have zz_ := z25_; clear zz_; (with_reducible refine gate_store (t := 37) (p := 4) rfl ?_); refine store_event (t := 37) (p := 4) (v := ?_) (w1 := ?_) ?hg ?ho ?hn ?hr ?_; (case ho => rfl); (case hg => rfl); (case hn => rfl); (case hr => first | (go_simp; done) | (go_simp; rfl)); intro w12560 hw; have n0_ : Aside0 (Kd.R (Kd.int .u8) 5 w12560 w.heap.size (fun _ => True) (.slice Ao3140350 t348.length co3140350) t348) := ⟨(by rw [hw]; exact (by (with_reducible repeat (first | apply Kd.R_alloc | apply Kd.R_drewN | apply Kd.R_drew)); exact Kd.R_mono (Kd.R_far9 (g := gb12960) (Kd.R_types HO350.out BK345.out (by decide)) (fun _ hk => hk.2) _ _ _ _ _ _ _ _ _) (fun _ hk => trivial)))⟩; have n1_ : Aside0 (w12560.heap[gb20840]? = some (.cells #[.int .i64 a0_0, .int .i64 a0_1, .int .i64 a0_2, .int .i64 a0_3, .int .i64 a0_4, .int .i64 a0_5, .bool true, .bool a0_7, .slice A0_8 l0_8.length c0_8] 37 (0, 0))) := ⟨(by rw [hw]; exact (uf_ BK344.out))⟩; have n2_ : Aside0 (w12560.heap[gb12960]? = some (.cells #[.int .i64 0, .int .i64 0, .int .i64 0, .int .i64 0, .int .i64 0, .int .i64 0, .bool false, .bool false, .slice none 0 0] 37 (0, 0))) := ⟨(by rw [hw]; exact (by (with_reducible repeat (first | refine bn_ ?_ _ | refine bw_ ?_ | refine ba_ ?_ _)); with_reducible apply blk_put9; (with_reducible repeat (first | refine bn_ ?_ _ | refine bw_ ?_ | refine ba_ ?_ _)); exact BK345.out))⟩; have n3_ : Aside0 (w12560.heap[gb13560]? = some (.cells #[.int .i64 t346, .int .i64 t347, .slice Ao3140350 t348.length co3140350] 44 (0, 0))) := ⟨(by rw [hw]; exact (uf_ BK352.out))⟩; have n4_ : Aside0 (Below w.heap.size w w12560) := ⟨(by rw [hw]; exact (us_ HB.out))⟩; clear hw; clear HO350; clear BK344; clear BK345; clear BK352; clear HB; have HO350 := n0_; have BK344 := n1_; have BK345 := n2_; have BK352 := n3_; have HB := n4_; clear n0_ n1_ n2_ n3_ n4_) | (have zz_ := z26_; clear zz_; (with_reducible refine gate_store (t := 37) (p := 4) rfl ?_); refine store_event (t := 37) (p := 4) (v := ?_) (w1 := ?_) ?hg ?ho ?hn ?hr ?_; (case ho => rfl); (case hg => rfl); (case hn => rfl); (case hr => first | (go_simp; done) | (go_simp; rfl)); intro w12560 hw; have n0_ : Aside0 (Kd.R (Kd.int .u8) 5 w12560 w.heap.size (fun _ => True) (.slice Ao3140350 t348.length co3140350) t348) := ⟨(by rw [hw]; exact (by (with_reducible repeat (first | apply Kd.R_alloc | apply Kd.R_drewN | apply Kd.R_drew)); exact Kd.R_mono (Kd.R_far9 (g := gb12960) (Kd.R_types HO350.out BK345.out (by decide)) (fun _ hk => hk.2) _ _ _ _ _ _ _ _ _) (fun _ hk => trivial)))⟩; have n1_ : Aside0 (w12560.heap[gb20840]? = some (.cells #[.int .i64 a0_0, .int .i64 a0_1, .int .i64 a0_2, .int .i64 a0_3, .int .i64 a0_4, .int .i64 a0_5, .bool false, .bool a0_7, .slice A0_8 l0_8.length c0_8] 37 (0, 0))) := ⟨(by rw [hw]; exact (uf_ BK344.out))⟩; have n2_ : Aside0 (w12560.heap[gb12960]? = some (.cells #[.int .i64 0, .int .i64 0, .int .i64 0, .int .i64 0, .int .i64 0, .int .i64 0, .bool false, .bool false, .slice none 0 0] 37 (0, 0))) := ⟨(by rw [hw]; exact (by (with_reducible repeat (first | refine bn_ ?_ _ | refine bw_ ?_ | refine ba_ ?_ _)); with_reducible apply blk_put9; (with_reducible repeat (first | refine bn_ ?_ _ | refine bw_ ?_ | refine ba_ ?_ _)); exact BK345.out))⟩; have n3_ : Aside0 (w12560.heap[gb13560]? = some (.cells #[.int .i64 t346, .int .i64 t347, .slice Ao3140350 t348.length co3140350] 44 (0, 0))) := ⟨(by rw [hw]; exact (uf_ BK352.out))⟩; have n4_ : Aside0 (Below w.heap.size w w12560) := ⟨(by rw [hw]; exact (us_ HB.out))⟩; clear hw; clear HO350; clear BK344; clear BK345; clear BK352; clear HB; have HO350 := n0_; have BK344 := n1_; have BK345 := n2_; have BK352 := n3_; have HB := n4_; clear n0_ n1_ n2_ n3_ n4_) | (have zz_ := z27_; clear zz_; (with_reducible refine gate_store (t := 37) (p := 4) rfl ?_); refine store_event (t := 37) (p := 4) (v := ?_) (w1 := ?_) ?hg ?ho ?hn ?hr ?_; (case ho => rfl); (case hg => rfl); (case hn => rfl); (case hr => first | (go_simp; done) | (go_simp; rfl)); intro w12560 hw; have n0_ : Aside0 (Kd.R (Kd.int .u8) 5 w12560 w.heap.size (fun k_ => some k_ ≠ (.slice Ao5020364 t362.length co5020364 : Value).ownBlock) (.slice Ao3140350 t348.length co3140350) t348) := ⟨(by rw [hw]; exact (by (with_reducible repeat (first | apply Kd.R_alloc | apply Kd.R_drewN | apply Kd.R_drew)); exact Kd.R_mono (Kd.R_far9 (g := gb12960) (Kd.R_types HO350.out BK345.out (by decide)) (fun _ hk => hk.2) _ _ _ _ _ _ _ _ _) (fun _ hk => hk.1.2)))⟩; have n1_ : Aside0 (Kd.R (Kd.int .u8) 5 w12560 w.heap.size (fun k_ => some k_ ≠ (.slice Ao3140350 t348.length co3140350 : Value).ownBlock) (.slice Ao5020364 t362.length co5020364) t362) := ⟨(by rw [hw]; exact (by (with_reducible repeat (first | apply Kd.R_alloc | apply Kd.R_drewN | apply Kd.R_drew)); exact Kd.R_mono (Kd.R_far9 (g := gb12960) (Kd.R_types HO364.out BK345.out (by decide)) (fun _ hk => hk.2) _ _ _ _ _ _ _ _ _) (fun _ hk => hk.1.2)))⟩; have n2_ : Aside0 (w12560.heap[gb20840]? = some (.cells #[.int .i64 a0_0, .int .i64 a0_1, .int .i64 a0_2, .int .i64 a0_3, .int .i64 a0_4, .int .i64 a0_5, .bool false, .bool a0_7, .slice A0_8 l0_8.length c0_8] 37 (0, 0))) := ⟨(by rw [hw]; exact (uf_ BK344.out))⟩; have n3_ : Aside0 (w12560.heap[gb12960]? = some (.cells #[.int .i64 t354, .int .i64 t355, .int .i64 t356, .int .i64 t357, .int .i64 t358, .int .i64 t359, .bool t360, .bool t361, .slice Ao5020364 t362.length co5020364] 37 (0, 0))) := ⟨(by rw [hw]; exact (by (with_reducible repeat (first | refine bn_ ?_ _ | refine bw_ ?_ | refine ba_ ?_ _)); with_reducible apply blk_put9; (with_reducible repeat (first | refine bn_ ?_ _ | refine bw_ ?_ | refine ba_ ?_ _)); exact BK345.out))⟩; have n4_ : Aside0 (w12560.heap[gb13560]? = some (.cells #[.int .i64 t346, .int .i64 t347, .slice Ao3140350 t348.length co3140350] 44 (0, 0))) := ⟨(by rw [hw]; exact (uf_ BK352.out))⟩; have n5_ : Aside0 (Below w.heap.size w w12560) := ⟨(by rw [hw]; exact (us_ HB.out))⟩; clear hw; clear HO350; clear HO364; clear BK344; clear BK345; clear BK352; clear HB; have HO350 := n0_; have HO364 := n1_; have BK344 := n2_; have BK345 := n3_; have BK352 := n4_; have HB := n5_; clear n0_ n1_ n2_ n3_ n4_ n5_) | (go_at_call 20; (with_reducible refine (impl_PacketOk.calls a0_0 a0_1 a0_2 a0_3 a0_4 a0_5 a0_6 a0_7 _ _ l0_8 false _ ?side1 ?side2 A5.out).mono ?_); (case side1 => exact Kd.C_below HR0_8.out (us_ HB.out)); (case side2 => exact HC0_8.out); rintro e w20920 ⟨rfl, hb⟩; replace HO350 := mk_ (Kd.R_below (by (with_reducible repeat (first | apply Kd.R_alloc | apply Kd.R_drewN | apply Kd.R_drew)); exact (Kd.R_mono (Kd.R_far (p := ⟨gb13560, 2, none⟩) (Kd.R_far (p := ⟨gb13560, 1, none⟩) (Kd.R_far (p := ⟨gb13560, 0, none⟩) (Kd.R_types HO350.out BK352.out (by decide)) (fun _ hk => hk.2) (.int .i64 t346)) (fun _ hk => hk.2) (.int .i64 t347)) (fun _ hk => hk.2) (.slice Ao3140350 t348.length co3140350)) (fun _ h_ => by first | exact h_.1 | simp only [h_, ne_eq, not_false_eq_true, and_self]))) hb); replace BK344 := mk_ (blk_below (g := gb20840) (o := .cells #[.int .i64 a0_0, .int .i64 a0_1, .int .i64 a0_2, .int .i64 a0_3, .int .i64 a0_4, .int .i64 a0_5, .bool a0_6, .bool a0_7, .slice A0_8 l0_8.length c0_8] 37 (0, 0)) (uf_ BK344.out) hb); replace BK345 := mk_ (blk_below (g := gb12960) (o := .cells #[.int .i64 0, .int .i64 0, .int .i64 0, .int .i64 0, .int .i64 0, .int .i64 0, .bool false, .bool false, .slice none 0 0] 37 (0, 0)) (uf_ BK345.out) hb); replace BK352 := mk_ (blk_below (g := gb13560) (o := .cells #[.int .i64 t346, .int .i64 t347, .slice Ao3140350 t348.length co3140350] 44 (0, 0)) (by (with_reducible repeat (first | refine bn_ ?_ _ | refine bw_ ?_ | refine ba_ ?_ _)); refine blk_put (cs := #[.int .i64 t346, .int .i64 t347, .slice none 0 0]) ?_ 2 _ rfl; (with_reducible repeat (first | refine bn_ ?_ _ | refine bw_ ?_ | refine ba_ ?_ _)); refine blk_put (cs := #[.int .i64 t346, .int .i64 0, .slice none 0 0]) ?_ 1 _ rfl; (with_reducible repeat (first | refine bn_ ?_ _ | refine bw_ ?_ | refine ba_ ?_ _)); refine blk_put (cs := #[.int .i64 0, .int .i64 0, .slice none 0 0]) ?_ 0 _ rfl; (with_reducible repeat (first | refine bn_ ?_ _ | refine bw_ ?_ | refine ba_ ?_ _)); exact BK352.out) hb); replace HB := mk_ (below_step (us_ HB.out) hb); obtain ⟨_, _, _, _, _, _, _, _, _, _, _, _, _, _, _, _, _, _⟩ := cells9_ BK345.out) | (go_at_call 20; (with_reducible refine (impl_PacketOk.calls a0_0 a0_1 a0_2 a0_3 a0_4 a0_5 a0_6 a0_7 _ _ l0_8 true _ ?side1 ?side2 A5.out).mono ?_); (case side1 => exact Kd.C_below HR0_8.out (us_ HB.out)); (case side2 => exact HC0_8.out); rintro e w20960 ⟨rfl, hb⟩; replace HO350 := mk_ (Kd.R_below (by (with_reducible repeat (first | apply Kd.R_alloc | apply Kd.R_drewN | apply Kd.R_drew)); exact (Kd.R_mono (Kd.R_far (p := ⟨gb13560, 2, none⟩) (Kd.R_far (p := ⟨gb13560, 1, none⟩) (Kd.R_far (p := ⟨gb13560, 0, none⟩) (Kd.R_types HO350.out BK352.out (by decide)) (fun _ hk => hk.2) (.int .i64 t346)) (fun _ hk => hk.2) (.int .i64 t347)) (fun _ hk => hk.2) (.slice Ao3140350 t348.length co3140350)) (fun _ h_ => by first | exact h_.1 | simp only [h_, ne_eq, not_false_eq_true, and_self]))) hb); replace BK344 := mk_ (blk_below (g := gb20840) (o := .cells #[.int .i64 a0_0, .int .i64 a0_1, .int .i64 a0_2, .int .i64 a0_3, .int .i64 a0_4, .int .i64 a0_5, .bool a0_6, .bool a0_7, .slice A0_8 l0_8.length c0_8] 37 (0, 0)) (uf_ BK344.out) hb); replace BK345 := mk_ (blk_below (g := gb12960) (o := .cells #[.int .i64 0, .int .i64 0, .int .i64 0, .int .i64 0, .int .i64 0, .int .i64 0, .bool false, .bool false, .slice none 0 0] 37 (0, 0)) (uf_ BK345.out) hb); replace BK352 := mk_ (blk_below (g := gb13560) (o := .cells #[.int .i64 t346, .int .i64 t347, .slice Ao3140350 t348.length co3140350] 44 (0, 0)) (by (with_reducible repeat (first | refine bn_ ?_ _ | refine bw_ ?_ | refine ba_ ?_ _)); refine blk_put (cs := #[.int .i64 t346, .int .i64 t347, .slice none 0 0]) ?_ 2 _ rfl; (with_reducible repeat (first | refine bn_ ?_ _ | refine bw_ ?_ | refine ba_ ?_ _)); refine blk_put (cs := #[.int .i64 t346, .int .i64 0, .slice none 0 0]) ?_ 1 _ rfl; (with_reducible repeat (first | refine bn_ ?_ _ | refine bw_ ?_ | refine ba_ ?_ _)); refine blk_put (cs := #[.int .i64 0, .int .i64 0, .slice none 0 0]) ?_ 0 _ rfl; (with_reducible repeat (first | refine bn_ ?_ _ | refine bw_ ?_ | refine ba_ ?_ _)); exact BK352.out) hb); replace HB := mk_ (below_step (us_ HB.out) hb); obtain ⟨_, _, _, _, _, _, _, _, _, _, _, _, _, _, _, _, _, _⟩ := cells9_ BK344.out; obtain ⟨_, _, _, _, _, _, _, _, _, _, _, _, _, _, _, _, _, _⟩ := cells9_ BK345.out) | (go_at_call 20; (with_reducible refine (impl_PacketOk.calls a0_0 a0_1 a0_2 a0_3 a0_4 a0_5 true a0_7 _ _ l0_8 true _ ?side1 ?side2 A5.out).mono ?_); (case side1 => exact Kd.C_below HR0_8.out (us_ HB.out)); (case side2 => exact HC0_8.out); rintro e w21000 ⟨rfl, hb⟩; replace HO350 := mk_ (Kd.R_below (by (with_reducible repeat (first | apply Kd.R_alloc | apply Kd.R_drewN | apply Kd.R_drew)); exact (Kd.R_mono (Kd.R_far (p := ⟨gb13560, 2, none⟩) (Kd.R_far (p := ⟨gb13560, 1, none⟩) (Kd.R_far (p := ⟨gb13560, 0, none⟩) (Kd.R_types HO350.out BK352.out (by decide)) (fun _ hk => hk.2) (.int .i64 t346)) (fun _ hk => hk.2) (.int .i64 t347)) (fun _ hk => hk.2) (.slice Ao3140350 t348.length co3140350)) (fun _ h_ => by first | exact h_.1 | simp only [h_, ne_eq, not_false_eq_true, and_self]))) hb); replace BK344 := mk_ (blk_below (g := gb20840) (o := .cells #[.int .i64 a0_0, .int .i64 a0_1, .int .i64 a0_2, .int .i64 a0_3, .int .i64 a0_4, .int .i64 a0_5, .bool true, .bool a0_7, .slice A0_8 l0_8.length c0_8] 37 (0, 0)) (uf_ BK344.out) hb); replace BK345 := mk_ (blk_below (g := gb12960) (o := .cells #[.int .i64 0, .int .i64 0, .int .i64 0, .int .i64 0, .int .i64 0, .int .i64 0, .bool false, .bool false, .slice none 0 0] 37 (0, 0)) (uf_ BK345.out) hb); replace BK352 := mk_ (blk_below (g := gb13560) (o := .cells #[.int .i64 t346, .int .i64 t347, .slice Ao3140350 t348.length co3140350] 44 (0, 0)) (by (with_reducible repeat (first | refine bn_ ?_ _ | refine bw_ ?_ | refine ba_ ?_ _)); refine blk_put (cs := #[.int .i64 t346, .int .i64 t347, .slice none 0 0]) ?_ 2 _ rfl; (with_reducible repeat (first | refine bn_ ?_ _ | refine bw_ ?_ | refine ba_ ?_ _)); refine blk_put (cs := #[.int .i64 t346, .int .i64 0, .slice none 0 0]) ?_ 1 _ rfl; (with_reducible repeat (first | refine bn_ ?_ _ | refine bw_ ?_ | refine ba_ ?_ _)); refine blk_put (cs := #[.int .i64 0, .int .i64 0, .slice none 0 0]) ?_ 0 _ rfl; (with_reducible repeat (first | refine bn_ ?_ _ | refine bw_ ?_ | refine ba_ ?_ _)); exact BK352.out) hb); replace HB := mk_ (below_step (us_ HB.out) hb); obtain ⟨hcz5000344_0, hcz5000344_1, hcz5000344_2, hcz5000344_3, hcz5000344_4, hcz5000344_5, hcz5000344_6, hcz5000344_7, hcz5000344_8, hfz5000344_0, hfz5000344_1, hfz5000344_2, hfz5000344_3, hfz5000344_4, hfz5000344_5, hfz5000344_6, hfz5000344_7, hfz5000344_8⟩ := cells9_ BK344.out; obtain ⟨_, _, _, _, _, _, _, _, _, _, _, _, _, _, _, _, _, _⟩ := cells9_ BK345.out) | (go_at_call 20; (with_reducible refine (impl_PacketOk.calls a0_0 a0_1 a0_2 a0_3 a0_4 a0_5 false a0_7 _ _ l0_8 true _ ?side1 ?side2 A5.out).mono ?_); (case side1 => exact Kd.C_below HR0_8.out (us_ HB.out)); (case side2 => exact HC0_8.out); rintro e w21040 ⟨rfl, hb⟩; replace HO350 := mk_ (Kd.R_below (by (with_reducible repeat (first | apply Kd.R_alloc | apply Kd.R_drewN | apply Kd.R_drew)); exact (Kd.R_mono (Kd.R_far (p := ⟨gb13560, 2, none⟩) (Kd.R_far (p := ⟨gb13560, 1, none⟩) (Kd.R_far (p := ⟨gb13560, 0, none⟩) (Kd.R_types HO350.out BK352.out (by decide)) (fun _ hk => hk.2) (.int .i64 t346)) (fun _ hk => hk.2) (.int .i64 t347)) (fun _ hk => hk.2) (.slice Ao3140350 t348.length co3140350)) (fun _ h_ => by first | exact h_.1 | simp only [h_, ne_eq, not_false_eq_true, and_self]))) hb); replace BK344 := mk_ (blk_below (g := gb20840) (o := .cells #[.int .i64 a0_0, .int .i64 a0_1, .int .i64 a0_2, .int .i64 a0_3, .int .i64 a0_4, .int .i64 a0_5, .bool false, .bool a0_7, .slice A0_8 l0_8.length c0_8] 37 (0, 0)) (uf_ BK344.out) hb); replace BK345 := mk_ (blk_below (g := gb12960) (o := .cells #[.int .i64 0, .int .i64 0, .int .i64 0, .int .i64 0, .int .i64 0, .int .i64 0, .bool false, .bool false, .slice none 0 0] 37 (0, 0)) (uf_ BK345.out) hb); replace BK352 := mk_ (blk_below (g := gb13560) (o := .cells #[.int .i64 t346, .int .i64 t347, .slice Ao3140350 t348.length co3140350] 44 (0, 0)) (by (with_reducible repeat (first | refine bn_ ?_ _ | refine bw_ ?_ | refine ba_ ?_ _)); refine blk_put (cs := #[.int .i64 t346, .int .i64 t347, .slice none 0 0]) ?_ 2 _ rfl; (with_reducible repeat (first | refine bn_ ?_ _ | refine bw_ ?_ | refine ba_ ?_ _)); refine blk_put (cs := #[.int .i64 t346, .int .i64 0, .slice none 0 0]) ?_ 1 _ rfl; (with_reducible repeat (first | refine bn_ ?_ _ | refine bw_ ?_ | refine ba_ ?_ _)); refine blk_put (cs := #[.int .i64 0, .int .i64 0, .slice none 0 0]) ?_ 0 _ rfl; (with_reducible repeat (first | refine bn_ ?_ _ | refine bw_ ?_ | refine ba_ ?_ _)); exact BK352.out) hb); replace HB := mk_ (below_step (us_ HB.out) hb); obtain ⟨hcz5010344_0, hcz5010344_1, hcz5010344_2, hcz5010344_3, hcz5010344_4, hcz5010344_5, hcz5010344_6, hcz5010344_7, hcz5010344_8, hfz5010344_0, hfz5010344_1, hfz5010344_2, hfz5010344_3, hfz5010344_4, hfz5010344_5, hfz5010344_6, hfz5010344_7, hfz5010344_8⟩ := cells9_ BK344.out; obtain ⟨_, _, _, _, _, _, _, _, _, _, _, _, _, _, _, _, _, _⟩ := cells9_ BK345.out; obtain ⟨_, _, _, _, _, _⟩ := cells3_ BK352.out; obtain ⟨_, _, _, _, _, _, _, _, _, _, _, _, _, _, _, _, _, _⟩ := cells9_ BK345.out) | ((with_reducible refine gate_callee (f := 58) rfl ?_); refine goesL_ (some 54) rfl rfl Try.func58 (by kernel_rfl) rfl #[.int .i64 a1, .agg #[.int .i64 a0_0, .int .i64 a0_1, .int .i64 a0_2, .int .i64 a0_3, .int .i64 a0_4, .int .i64 a0_5, .bool false, .bool a0_7, .slice A0_8 l0_8.length c0_8], .agg #[.int .i64 2, .int .i64 t347, .slice Ao3140350 t348.length co3140350]] rfl (by (try simp only [lm_, lo_, ln_]); try rfl) ?_; (with_reducible refine (impl_noted.calls k a1 a0_0 a0_1 a0_2 a0_3 a0_4 a0_5 false a0_7 _ _ l0_8 2 t347 _ _ t348 t354 t355 t356 t357 t358 t359 t360 t361 t362 _ ?side1 ?side2 ?side3 ?side4 A27.out).mono ?_); (case side1 => repeat (first | exact (Kd.C_below HR0_8.out HB.out) | (with_reducible refine Kd.C_alloc ?_ _) | (with_reducible refine Kd.C_drewN ?_ _) | (with_reducible refine Kd.C_drew ?_))); (case side2 => exact HC0_8.out); (case side3 => repeat (first | exact (Kd.R_reads' HO350.out).2.2 | (with_reducible refine Kd.C_alloc ?_ _) | (with_reducible refine Kd.C_drewN ?_ _) | (with_reducible refine Kd.C_drew ?_))); (case side4 => exact (Kd.R_reads' HO350.out).2.1); rintro e w21080 ⟨v21081, rfl, ho20882, hb⟩; refine ⟨_, rfl, ?_⟩; have n0_ := mk_ (Kd.R_elder' (Kd.ur_ HO350.out) (Kd.R_base ho20882) hb); have HO364 := mk_ (Kd.R_lower (Kd.R_new' ho20882 (Kd.R_lt (Kd.ur_ HO350.out))) (below_size (us_ HB.out))); replace BK344 := mk_ (blk_below (u_ BK344.out) hb); replace BK345 := mk_ (blk_below (u_ BK345.out) hb); replace BK352 := mk_ (blk_below (u_ BK352.out) hb); replace HB := mk_ (below_step (us_ HB.out) hb); replace HO350 := n0_; clear n0_; obtain ⟨_, _, _, _, _, _, _, _, _, _, _, _, _, _, _, _, _, _⟩ := cells9_ BK345.out; obtain ⟨Ao5020364, co5020364, eo5020364⟩ := Kd.R_slice HO364.out; subst eo5020364))
 iterate 7
  focus
   refine bodyPost_ret (results_ct rfl _ _ gb12960 37 #[.int .i64 0, .int .i64 0, .int .i64 0, .int .i64 0, .int .i64 0, .int .i64 0, .bool false, .bool false, .slice none 0 0] (0, 0) _ rfl (u_ BK345.out) Try.underlying37 rfl (by kernel_rfl)) rfl ?_
   exact ⟨_, by first | rfl | (simp [errW_none, errW_some] <;> rfl) | (simp [*, errW_none, errW_some] <;> rfl), by first | exact Kd.R_nil _ _ _ _ _ | exact Kd.N_nil _ _ _ _ _ | exact Kd.V_nil _ _ _ _ _ | exact Kd.Q_nil _ _ _ _ _ | exact Kd.S_nil _ _ _ _ _, us_ HB.out⟩
 ·refine bodyPost_ret (results_ct rfl _ _ gb12960 37 #[.int .i64 t354, .int .i64 t355, .int .i64 t356, .int .i64 t357, .int .i64 t358, .int .i64 t359, .bool t360, .bool t361, .slice Ao5020364 t362.length co5020364] (0, 0) _ rfl (u_ BK345.out) Try.underlying37 rfl (by kernel_rfl)) rfl ?_
  exact ⟨_, by first | rfl | (simp [errW_none, errW_some] <;> rfl) | (simp [*, errW_none, errW_some] <;> rfl), by (with_reducible repeat (first | apply Kd.R_alloc | apply Kd.R_drewN | apply Kd.R_drew)); exact Kd.R_mono HO364.out (fun _ hk => trivial), us_ HB.out⟩

/-! ### spec_NumberAt: function 101 -/
mutual
def spec_NumberAt.j0 : Nat → List Int → Int → Int → Bool → Option (Int)
 | 0, _, _, _, _ => none
 | k + 1, x0, x1, x2, x20 => if x20 = true then (some (-1)) else (spec_NumberAt.l0 k x0 x1 x2 0 0)
def spec_NumberAt.l0 : Nat → List Int → Int → Int → Int → Int → Option (Int)
 | 0, _, _, _, _, _ => none
 | k + 1, x0, x1, x2, x7, x8 => if x8 < x2 then (if 0 ≤ (wrap64 (x1 + x8)) then (if (wrap64 (x1 + x8)) < (x0.length : Int) then (spec_NumberAt.l0 k x0 x1 x2 (wrap64 ((wrap64 (x7 * 256)) + (wrap64 (rd x0 (wrap64 (x1 + x8)))))) (wrap64 (x8 + 1))) else (none)) else (none)) else (some x7)
end
def spec_NumberAt.f (k : Nat) (l0 : List Int) (a1 : Int) (a2 : Int) : Option (Int) := (spec_l1In.f a2 1 4).bind fun t365 => (if t365 = true then ((spec_l1In.f a1 0 (wrap64 ((l0.length : Int) - a2))).bind fun t366 => (spec_NumberAt.j0 k l0 a1 a2 (!t366))) else (spec_NumberAt.j0 k l0 a1 a2 true))
theorem spec_NumberAt.mono_l : ∀ k, (∀ y0 y1 y2 y3, LeO (spec_NumberAt.j0 k y0 y1 y2 y3) (spec_NumberAt.j0 (k + 1) y0 y1 y2 y3)) ∧ (∀ y0 y1 y2 y3 y4, LeO (spec_NumberAt.l0 k y0 y1 y2 y3 y4) (spec_NumberAt.l0 (k + 1) y0 y1 y2 y3 y4))
 | 0 => ⟨fun _ _ _ _ r h => by simp [spec_NumberAt.j0] at h, fun _ _ _ _ _ r h => by simp [spec_NumberAt.l0] at h⟩
 | k + 1 => by
  obtain ⟨ih0, ih1⟩ := spec_NumberAt.mono_l k
  refine ⟨?_, ?_⟩
  ·intro y0 y1 y2 y3
   unfold spec_NumberAt.j0
   repeat' first
   | (with_reducible exact ih0 _ _ _ _)
   | (with_reducible exact ih1 _ _ _ _ _)
   | (with_reducible exact LeO.refl _)
   | (with_reducible exact LeO.none _)
   | (with_reducible refine LeO.ite ?_ ?_)
   | (with_reducible refine LeO.bind ?_ (fun _ => ?_))
   | exact ih0 _ _ _ _
   | exact ih1 _ _ _ _ _
   | exact LeO.none _
   | refine LeO.ite ?_ ?_
   | refine LeO.bind ?_ (fun _ => ?_)
  ·intro y0 y1 y2 y3 y4
   unfold spec_NumberAt.l0
   repeat' first
   | (with_reducible exact ih0 _ _ _ _)
   | (with_reducible exact ih1 _ _ _ _ _)
   | (with_reducible exact LeO.refl _)
   | (with_reducible exact LeO.none _)
   | (with_reducible refine LeO.ite ?_ ?_)
   | (with_reducible refine LeO.bind ?_ (fun _ => ?_))
   | exact ih0 _ _ _ _
   | exact ih1 _ _ _ _ _
   | exact LeO.none _
   | refine LeO.ite ?_ ?_
   | refine LeO.bind ?_ (fun _ => ?_)
theorem spec_NumberAt.mono : ∀ a0 a1 a2 k, LeO (spec_NumberAt.f k a0 a1 a2) (spec_NumberAt.f (k + 1) a0 a1 a2) := by
 intro a0 a1 a2 k
 obtain ⟨ih0, ih1⟩ := spec_NumberAt.mono_l k
 unfold spec_NumberAt.f
 repeat' first
   | (with_reducible exact ih0 _ _ _ _)
   | (with_reducible exact ih1 _ _ _ _ _)
   | (with_reducible exact LeO.refl _)
   | (with_reducible exact LeO.none _)
   | (with_reducible refine LeO.ite ?_ ?_)
   | (with_reducible refine LeO.bind ?_ (fun _ => ?_))
   | exact ih0 _ _ _ _
   | exact ih1 _ _ _ _ _
   | exact LeO.none _
   | refine LeO.ite ?_ ?_
   | refine LeO.bind ?_ (fun _ => ?_)
set_option maxHeartbeats 8000000 in
set_option maxRecDepth 100000 in
theorem spec_NumberAt.calls (k : Nat) (A0 : Option Addr) (c0 : Nat) (l0 : List Int) (a1 : Int) (a2 : Int) (r : Int) (w : World) (hr0 : Kd.C (Kd.int .u8) w A0 l0.length l0) (hc0 : l0.length ≤ c0) (h : spec_NumberAt.f k l0 a1 a2 = some r) :
  Calls Try.prog 101 #[.slice A0 l0.length c0, .int .i64 a1, .int .i64 a2] w fun e w' => e = .returned (.int .i64 r) ∧ Drawn0 w w' := by
 have HR0 := mk_ hr0
 have HC0 := mk_ hc0
 clear hr0 hc0
 have H := h
 unfold spec_NumberAt.f at H
 clear h
 have HC4 := mk_ H
 clear H
 go_enter Try.func101, Try.ntmps101
 go_upto_region 1 with (fail)
 go_cut [20] (fun v20 wc => ∃ (kq : Nat) (x20_3 : Bool), v20 = .bool x20_3 ∧ Aside0 (spec_NumberAt.j0 kq l0 a1 a2 x20_3 = some r) ∧ Aside0 (kq ≤ k) ∧ Drawn0 w wc)
 case first =>
  have H := HC4.out
  clear HC4
  replace H := Option.bind_eq_some_iff.mp H
  obtain ⟨t365, A50, H⟩ := H
  (try dsimp only at H)
  have A5 := mk_ A50
  clear A50
  by_cases c6 : t365 = true
  rotate_left
  ·replace c6 := Bool.eq_false_iff.mpr c6
   subst c6
   have H1 : (spec_NumberAt.j0 k l0 a1 a2 true) = some r := by rw [if_neg (show ¬ (false = true) by decide)] at H; exact H
   clear H
   have H := H1
   clear H1
   have H' := mk_ H
   clear H
   go_wp2_with (first | ((with_reducible refine gate_callee (f := 53) rfl ?_); refine goesL_ (some 10) rfl rfl Try.func53 (by kernel_rfl) rfl #[.int .i64 a2, .int .i64 1, .int .i64 4] rfl (by (try simp only [lm_, lo_, ln_]); try rfl) ?_; (with_reducible refine (spec_l1In.calls a2 1 4 false _ A5.out).mono ?_); rintro e w' ⟨rfl, ⟨nd, rfl⟩⟩; refine ⟨_, rfl, ?_⟩))
   go_meet
   case rel => exact ⟨_, (true), (by first | rfl | (simp; done) | (simp [*]; done)), H', ⟨by first | omega | exact Nat.le_refl _⟩, by repeat (first | exact Drawn0.refl _ | apply Drawn0.step)⟩
  subst c6
  rw [if_pos rfl] at H
  replace H := Option.bind_eq_some_iff.mp H
  obtain ⟨t366, A70, H⟩ := H
  replace H : (spec_NumberAt.j0 k l0 a1 a2 (!t366)) = some r := H
  have A7 := mk_ A70
  clear A70
  have H' := mk_ H
  clear H
  go_wp2_with (first | ((with_reducible refine gate_callee (f := 53) rfl ?_); have hA_ := A5.out; refine goesL_ (some 10) rfl rfl Try.func53 (by kernel_rfl) rfl #[.int .i64 a2, .int .i64 1, .int .i64 4] rfl (by (try simp only [lm_, lo_, ln_]); try rfl) ?_; (with_reducible refine (spec_l1In.calls a2 1 4 true _ A5.out).mono ?_); rintro e w' ⟨rfl, ⟨nd, rfl⟩⟩; refine ⟨_, rfl, ?_⟩; clear hA_ A5) | (go_at_call 53; have hA_ := A7.out; (with_reducible refine (spec_l1In.calls a1 0 (wrap64 ((l0.length : Int) - a2)) t366 _ A7.out).mono ?_); rintro e w' ⟨rfl, ⟨nd, rfl⟩⟩; clear hA_ A7))
  go_meet
  case rel => exact ⟨_, (!t366), (by first | rfl | (simp; done) | (simp [*]; done)), H', ⟨by first | omega | exact Nat.le_refl _⟩, by repeat (first | exact Drawn0.refl _ | apply Drawn0.step)⟩
 case rest =>
  clear HC4
  try clear c1
  try clear p2
  try clear c5
  try clear c6
  try clear p6
  obtain ⟨kq, x20_3, rfl, HA, HJ3, ⟨mc3, rfl⟩⟩ := hcut
  cases kq with
  | zero => exact absurd HA.out (by simp [spec_NumberAt.j0])
  | succ kj3 =>
   have H := HA.out
   clear HA
   simp only [spec_NumberAt.j0] at H
   by_cases c8 : x20_3 = true
   ·subst c8
    have H1 : (some (-1)) = some r := by rw [if_pos rfl] at H; exact H
    clear H
    have H := H1
    clear H1
    obtain rfl := Option.some.inj H
    go_wp2
    go_ret
    exact ⟨by first | rfl | (simp; done) | (simp [*]; done), by repeat (first | exact Drawn0.refl _ | apply Drawn0.step)⟩
   replace c8 := Bool.eq_false_iff.mpr c8
   subst c8
   have H1 : (spec_NumberAt.l0 kj3 l0 a1 a2 0 0) = some r := by rw [if_neg (show ¬ (false = true) by decide)] at H; exact H
   clear H
   have H := H1
   clear H1
   have H' := mk_ H
   clear H
   go_wp2
   go_loopg [7, 8] kj3 (fun kq v7 v8 w' => ∃ (x7_2 : Int) (x8_2 : Int), v7 = .int .i64 x7_2 ∧ v8 = .int .i64 x8_2 ∧ Aside0 (spec_NumberAt.l0 kq l0 a1 a2 x7_2 x8_2 = some r) ∧ Aside0 (kq ≤ kj3) ∧ Drawn0 w w')
   case atStart => exact ⟨(0), (0), (by first | rfl | (simp; done) | (simp [*]; done)), (by first | rfl | (simp; done) | (simp [*]; done)), H', ⟨Nat.le_refl _⟩, by repeat (first | exact Drawn0.refl _ | apply Drawn0.step)⟩
   case round =>
    clear H'
    try clear c1
    try clear p2
    try clear c3
    try clear c5
    try clear c6
    try clear p6
    try clear c8
    try clear p2
    try clear p6
    obtain ⟨x7_2, x8_2, rfl, rfl, HA, HK2, ⟨m2, rfl⟩⟩ := hrel
    cases gk with
    | zero => exact absurd HA.out (by simp [spec_NumberAt.l0])
    | succ k2 =>
     have H := HA.out
     clear HA
     simp only [spec_NumberAt.l0] at H
     by_cases c9 : x8_2 < a2
     rotate_left
     ·rw [if_neg c9] at H
      have c9b0 : decide (x8_2 < a2) = false := decide_eq_false c9
      clear c9
      obtain rfl := Option.some.inj H
      go_wp2
      go_ret
      exact ⟨by first | rfl | (simp; done) | (simp [*]; done), by repeat (first | exact Drawn0.refl _ | apply Drawn0.step)⟩
     rw [if_pos c9] at H
     have c9b0 : decide (x8_2 < a2) = true := decide_eq_true c9
     clear c9
     obtain ⟨ji10, hji10⟩ : ∃ j_ : Int, (wrap64 (a1 + x8_2)) = j_ := ⟨_, rfl⟩
     replace H : (if 0 ≤ (ji10) then (if (ji10) < (l0.length : Int) then (spec_NumberAt.l0 k2 l0 a1 a2 (wrap64 ((wrap64 (x7_2 * 256)) + (wrap64 (rd l0 (ji10))))) (wrap64 (x8_2 + 1))) else (none)) else (none)) = some r := by first | (rw [hji10] at H; exact H) | (simp only [hji10] at H ⊢; exact H)
     have hji10w : (IntKind.i64.wrap (a1 + x8_2)) = ji10 := (i64_w _).trans hji10
     by_cases c11 : 0 ≤ (ji10)
     rotate_left
     ·rw [if_neg c11] at H
      exact absurd H (by simp)
     rw [if_pos c11] at H
     have c11b0 : decide (0 ≤ (ji10)) = true := decide_eq_true c11
     clear c11
     by_cases c12 : (ji10) < (l0.length : Int)
     rotate_left
     ·rw [if_neg c12] at H
      exact absurd H (by simp)
     rw [if_pos c12] at H
     have c12b0 : decide ((ji10) < (l0.length : Int)) = true := decide_eq_true c12
     clear c12
     have H' := mk_ H
     clear H
     have p367 : 0 ≤ ((ji10) : Int) := of_decide_eq_true (by first | (with_reducible assumption) | assumption)
     have q367 : (ji10) < (l0.length : Int) := of_decide_eq_true (by first | (with_reducible assumption) | assumption)
     obtain ⟨ad367, e367, hx367_0⟩ := Kd.at_int HR0.out (ji10) p367 q367
     cases e367
     replace p367 := eq_true p367
     replace q367 := eq_true q367
     go_wp2
     go_roundg k2
     case measure => have := HJ3.out; have := HK2.out; omega
     case rel => exact ⟨(wrap64 ((wrap64 (x7_2 * 256)) + (wrap64 (rd l0 (ji10))))), (wrap64 (x8_2 + 1)), (by first | rfl | (simp; done) | (simp only [← hji10] <;> (first | rfl | simp)) | (simp [*]; done)), (by first | rfl | (simp; done) | (simp [*]; done)), H', ⟨by have := HJ3.out; have := HK2.out; omega⟩, by repeat (first | exact Drawn0.refl _ | apply Drawn0.step)⟩

end Go.Proofs.Ytkkibccnpkbbjab.MFnNoteEchoed
