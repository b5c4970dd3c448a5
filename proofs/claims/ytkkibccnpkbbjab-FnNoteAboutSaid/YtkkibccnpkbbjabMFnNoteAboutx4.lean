/- Functions that the law FnNoteAbout reaches, each with the proof that the machine's call comes to just its answer; no conditions but those that each theorem states. Printed by a program of this session over the kit's print. -/
import Derived.Test.YtkkibccnpkbbjabMFnNoteAboutx0
import Derived.Test.YtkkibccnpkbbjabMFnNoteAboutx1
import Derived.Test.YtkkibccnpkbbjabMFnNoteAboutx2
import Derived.Test.YtkkibccnpkbbjabMFnNoteAboutx3
namespace Go.Proofs.Ytkkibccnpkbbjab.MFnNoteAbout
open Go.RowKit Go.Proofs.YtkkibccnpkbbjabV.PrintWords Go.Proofs.YtkkibccnpkbbjabV.PrintLast Go.Proofs.YtkkibccnpkbbjabV.PrintMore
attribute [local go_sem] max2_int min2_int max_two min_two max_three min_three max_four min_four   -- for this text's walks alone
set_option linter.unusedVariables false
set_option linter.unusedSimpArgs false

/-! ### impl_PacketOk: function 20 -/
def impl_PacketOk.f (a0_0 : Int) (a0_1 : Int) (a0_2 : Int) (a0_3 : Int) (a0_4 : Int) (a0_5 : Int) (a0_6 : Bool) (a0_7 : Bool) (l0_8 : List Int) : Option (Bool) := (impl_word.f a0_0).bind fun t155 => (if t155 = true then ((impl_word.f a0_1).bind fun t156 => (if t156 = true then ((impl_in.f a0_2 0 255).bind fun t157 => (if t157 = true then ((impl_in.f a0_3 0 255).bind fun t158 => (if t158 = true then ((impl_in.f a0_4 0 255).bind fun t159 => (if t159 = true then ((impl_in.f a0_5 0 255).bind fun t160 => (if t160 = true then (if (l0_8.length : Int) ≤ 48 then (if a0_6 = true then (if (l0_8.length : Int) > 0 then (if a0_7 = true then (if a0_5 = 0 then (some (!a0_6)) else (some false)) else (some true)) else (some false)) else (if a0_7 = true then (if a0_5 = 0 then (some (!a0_6)) else (some false)) else (some true))) else (some false)) else (some false))) else (some false))) else (some false))) else (some false))) else (some false))) else (some false))
set_option maxHeartbeats 8000000 in
set_option maxRecDepth 100000 in
theorem impl_PacketOk.calls (a0_0 : Int) (a0_1 : Int) (a0_2 : Int) (a0_3 : Int) (a0_4 : Int) (a0_5 : Int) (a0_6 : Bool) (a0_7 : Bool) (A0_8 : Option Addr) (c0_8 : Nat) (l0_8 : List Int) (r : Bool) (w : World) (hr0_8 : Kd.C (Kd.int .u8) w A0_8 l0_8.length l0_8) (hc0_8 : l0_8.length ≤ c0_8) (h : impl_PacketOk.f a0_0 a0_1 a0_2 a0_3 a0_4 a0_5 a0_6 a0_7 l0_8 = some r) :
  Calls Try.prog 20 #[.agg #[.int .i64 a0_0, .int .i64 a0_1, .int .i64 a0_2, .int .i64 a0_3, .int .i64 a0_4, .int .i64 a0_5, .bool a0_6, .bool a0_7, .slice A0_8 l0_8.length c0_8]] w fun e w' => e = .returned (.bool r) ∧ Below w.heap.size w w' := by
 have hu37 := Try.underlying37
 have HR0_8 := mk_ hr0_8
 have HC0_8 := mk_ hc0_8
 clear hr0_8 hc0_8
 have HB := mk_ (Below.refl w.heap.size w)
 have H := h
 unfold impl_PacketOk.f at H
 clear h
 replace H := Option.bind_eq_some_iff.mp H
 obtain ⟨t155, A20, H⟩ := H
 (try dsimp only at H)
 have A2 := mk_ A20
 clear A20
 by_cases c3 : t155 = true
 rotate_left
 focus
  replace c3 := Bool.eq_false_iff.mpr c3
  subst c3
  have H1 : (some false) = some r := by rw [if_neg (show ¬ (false = true) by decide)] at H; exact H
  clear H
  have H := H1
  clear H1
  obtain rfl := Option.some.inj H
 rotate_left
 focus
  subst c3
  rw [if_pos rfl] at H
  replace H := Option.bind_eq_some_iff.mp H
  obtain ⟨t156, A40, H⟩ := H
  (try dsimp only at H)
  have A4 := mk_ A40
  clear A40
  by_cases c5 : t156 = true
  rotate_left
  focus
   replace c5 := Bool.eq_false_iff.mpr c5
   subst c5
   have H1 : (some false) = some r := by rw [if_neg (show ¬ (false = true) by decide)] at H; exact H
   clear H
   have H := H1
   clear H1
   obtain rfl := Option.some.inj H
  rotate_left
  focus
   subst c5
   rw [if_pos rfl] at H
   replace H := Option.bind_eq_some_iff.mp H
   obtain ⟨t157, A60, H⟩ := H
   (try dsimp only at H)
   have A6 := mk_ A60
   clear A60
   by_cases c7 : t157 = true
   rotate_left
   focus
    replace c7 := Bool.eq_false_iff.mpr c7
    subst c7
    have H1 : (some false) = some r := by rw [if_neg (show ¬ (false = true) by decide)] at H; exact H
    clear H
    have H := H1
    clear H1
    obtain rfl := Option.some.inj H
   rotate_left
   focus
    subst c7
    rw [if_pos rfl] at H
    replace H := Option.bind_eq_some_iff.mp H
    obtain ⟨t158, A80, H⟩ := H
    (try dsimp only at H)
    have A8 := mk_ A80
    clear A80
    by_cases c9 : t158 = true
    rotate_left
    focus
     replace c9 := Bool.eq_false_iff.mpr c9
     subst c9
     have H1 : (some false) = some r := by rw [if_neg (show ¬ (false = true) by decide)] at H; exact H
     clear H
     have H := H1
     clear H1
     obtain rfl := Option.some.inj H
    rotate_left
    focus
     subst c9
     rw [if_pos rfl] at H
     replace H := Option.bind_eq_some_iff.mp H
     obtain ⟨t159, A100, H⟩ := H
     (try dsimp only at H)
     have A10 := mk_ A100
     clear A100
     by_cases c11 : t159 = true
     rotate_left
     focus
      replace c11 := Bool.eq_false_iff.mpr c11
      subst c11
      have H1 : (some false) = some r := by rw [if_neg (show ¬ (false = true) by decide)] at H; exact H
      clear H
      have H := H1
      clear H1
      obtain rfl := Option.some.inj H
     rotate_left
     focus
      subst c11
      rw [if_pos rfl] at H
      replace H := Option.bind_eq_some_iff.mp H
      obtain ⟨t160, A120, H⟩ := H
      (try dsimp only at H)
      have A12 := mk_ A120
      clear A120
      by_cases c13 : t160 = true
      rotate_left
      focus
       replace c13 := Bool.eq_false_iff.mpr c13
       subst c13
       have H1 : (some false) = some r := by rw [if_neg (show ¬ (false = true) by decide)] at H; exact H
       clear H
       have H := H1
       clear H1
       obtain rfl := Option.some.inj H
      rotate_left
      focus
       subst c13
       rw [if_pos rfl] at H
       by_cases c14 : (l0_8.length : Int) ≤ 48
       rotate_left
       focus
        rw [if_neg c14] at H
        have c14b0 : decide ((l0_8.length : Int) ≤ 48) = false := decide_eq_false c14
        have c14b1 : decide (l0_8.length ≤ 48) = false := decide_eq_false (by omega)
        clear c14
        obtain rfl := Option.some.inj H
       rotate_left
       focus
        rw [if_pos c14] at H
        have c14b0 : decide ((l0_8.length : Int) ≤ 48) = true := decide_eq_true c14
        have c14b1 : decide (l0_8.length ≤ 48) = true := decide_eq_true (by omega)
        clear c14
        by_cases c15 : a0_6 = true
        rotate_left
        focus
         replace c15 := Bool.eq_false_iff.mpr c15
         subst c15
         rw [if_neg (show ¬ (false = true) by decide)] at H
         by_cases c27 : a0_7 = true
         rotate_left
         focus
          replace c27 := Bool.eq_false_iff.mpr c27
          subst c27
          have H1 : (some true) = some r := by rw [if_neg (show ¬ (false = true) by decide)] at H; exact H
          clear H
          have H := H1
          clear H1
          obtain rfl := Option.some.inj H
         rotate_left
         focus
          subst c27
          rw [if_pos rfl] at H
          by_cases c28 : a0_5 = 0
          rotate_left
          focus
           rw [if_neg c28] at H
           have c28b0 : (a0_5 == 0) = false := beq_eq_false_iff_ne.mpr c28
           have c28b1 : (a0_5 != 0) = true := bne_iff_ne.mpr c28
           obtain rfl := Option.some.inj H
          rotate_left
          focus
           rw [if_pos c28] at H
           have c28b0 : (a0_5 == 0) = true := beq_iff_eq.mpr c28
           have c28b1 : (a0_5 != 0) = false := bne_eq_false_iff_eq.mpr c28
           clear c28
           obtain rfl := Option.some.inj H
          rotate_left
         rotate_left 2
        rotate_left 3
        focus
         subst c15
         rw [if_pos rfl] at H
         by_cases c16 : (l0_8.length : Int) > 0
         rotate_left
         focus
          rw [if_neg c16] at H
          have c16b0 : decide (0 < (l0_8.length : Int)) = false := decide_eq_false c16
          have c16b1 : decide (0 < l0_8.length) = false := decide_eq_false (by omega)
          clear c16
          obtain rfl := Option.some.inj H
         rotate_left
         focus
          rw [if_pos c16] at H
          have c16b0 : decide (0 < (l0_8.length : Int)) = true := decide_eq_true c16
          have c16b1 : decide (0 < l0_8.length) = true := decide_eq_true (by omega)
          clear c16
          by_cases c17 : a0_7 = true
          rotate_left
          focus
           replace c17 := Bool.eq_false_iff.mpr c17
           subst c17
           have H1 : (some true) = some r := by rw [if_neg (show ¬ (false = true) by decide)] at H; exact H
           clear H
           have H := H1
           clear H1
           obtain rfl := Option.some.inj H
          rotate_left
          focus
           subst c17
           rw [if_pos rfl] at H
           by_cases c18 : a0_5 = 0
           rotate_left
           focus
            rw [if_neg c18] at H
            have c18b0 : (a0_5 == 0) = false := beq_eq_false_iff_ne.mpr c18
            have c18b1 : (a0_5 != 0) = true := bne_iff_ne.mpr c18
            obtain rfl := Option.some.inj H
           rotate_left
           focus
            rw [if_pos c18] at H
            have c18b0 : (a0_5 == 0) = true := beq_iff_eq.mpr c18
            have c18b1 : (a0_5 != 0) = false := bne_eq_false_iff_eq.mpr c18
            clear c18
            obtain rfl := Option.some.inj H
           rotate_left
          rotate_left 2
         rotate_left 3
        rotate_left 4
       rotate_left 7
      rotate_left 8
     rotate_left 9
    rotate_left 10
   rotate_left 11
  rotate_left 12
 rotate_left 13
 all_goals
  go_enter Try.func20, Try.ntmps20
 have z27_ := trivial
 rotate_left
 have z27_ := trivial
 rotate_left
 have z27_ := trivial
 rotate_left
 have z27_ := trivial
 rotate_left
 have z27_ := trivial
 rotate_left
 have z27_ := trivial
 rotate_left
 have z27_ := trivial
 rotate_left
 have z28_ := trivial
 rotate_left
 have z29_ := trivial
 rotate_left
 have z29_ := trivial
 rotate_left
 have z30_ := trivial
 rotate_left
 have z31_ := trivial
 rotate_left
 have z32_ := trivial
 rotate_left
 have z32_ := trivial
 rotate_left
 all_goals
  go_wp2_with (first | (have zz_ := z27_; clear zz_; (with_reducible refine gate_dst (N := 1) rfl ?_); refine box_event ?hg (N := 1) ?hd (cs := #[.int .i64 a0_0, .int .i64 a0_1, .int .i64 a0_2, .int .i64 a0_3, .int .i64 a0_4, .int .i64 a0_5, .bool a0_6, .bool a0_7, .slice A0_8 l0_8.length c0_8]) (t := 37) ?hr ?_; (case hd => rfl); (case hg => rfl); (case hr => first | (go_simp; done) | (go_simp; rfl)); intro gb2120 hg w2121 hbox hb; have n0_ := mk_ (below_step (ub_ HB.out) hb); have BK154 := mk_ (hbox); have GW154 := mk_ ((by rw [hg]; exact (below_size (ub_ HB.out)) : w.heap.size ≤ gb2120)); have GE154 := ge_ ((by rw [hg]; exact (below_size (ub_ HB.out)) : w.heap.size ≤ gb2120)); replace HB := n0_; clear n0_; clear hb hbox hg; obtain ⟨hcz280154_0, hcz280154_1, hcz280154_2, hcz280154_3, hcz280154_4, hcz280154_5, hcz280154_6, hcz280154_7, hcz280154_8, hfz280154_0, hfz280154_1, hfz280154_2, hfz280154_3, hfz280154_4, hfz280154_5, hfz280154_6, hfz280154_7, hfz280154_8⟩ := cells9_ BK154.out) | (have zz_ := z28_; clear zz_; (with_reducible refine gate_dst (N := 1) rfl ?_); refine box_event ?hg (N := 1) ?hd (cs := #[.int .i64 a0_0, .int .i64 a0_1, .int .i64 a0_2, .int .i64 a0_3, .int .i64 a0_4, .int .i64 a0_5, .bool false, .bool false, .slice A0_8 l0_8.length c0_8]) (t := 37) ?hr ?_; (case hd => rfl); (case hg => rfl); (case hr => first | (go_simp; done) | (go_simp; rfl)); intro gb2120 hg w2121 hbox hb; have n0_ := mk_ (below_step (ub_ HB.out) hb); have BK154 := mk_ (hbox); have GW154 := mk_ ((by rw [hg]; exact (below_size (ub_ HB.out)) : w.heap.size ≤ gb2120)); have GE154 := ge_ ((by rw [hg]; exact (below_size (ub_ HB.out)) : w.heap.size ≤ gb2120)); replace HB := n0_; clear n0_; clear hb hbox hg; obtain ⟨_, _, _, _, _, _, _, _, _, _, _, _, _, _, _, _, _, _⟩ := cells9_ BK154.out) | (have zz_ := z29_; clear zz_; (with_reducible refine gate_dst (N := 1) rfl ?_); refine box_event ?hg (N := 1) ?hd (cs := #[.int .i64 a0_0, .int .i64 a0_1, .int .i64 a0_2, .int .i64 a0_3, .int .i64 a0_4, .int .i64 a0_5, .bool false, .bool true, .slice A0_8 l0_8.length c0_8]) (t := 37) ?hr ?_; (case hd => rfl); (case hg => rfl); (case hr => first | (go_simp; done) | (go_simp; rfl)); intro gb2120 hg w2121 hbox hb; have n0_ := mk_ (below_step (ub_ HB.out) hb); have BK154 := mk_ (hbox); have GW154 := mk_ ((by rw [hg]; exact (below_size (ub_ HB.out)) : w.heap.size ≤ gb2120)); have GE154 := ge_ ((by rw [hg]; exact (below_size (ub_ HB.out)) : w.heap.size ≤ gb2120)); replace HB := n0_; clear n0_; clear hb hbox hg; obtain ⟨hcz280154_0, hcz280154_1, hcz280154_2, hcz280154_3, hcz280154_4, hcz280154_5, hcz280154_6, hcz280154_7, hcz280154_8, hfz280154_0, hfz280154_1, hfz280154_2, hfz280154_3, hfz280154_4, hfz280154_5, hfz280154_6, hfz280154_7, hfz280154_8⟩ := cells9_ BK154.out) | (have zz_ := z30_; clear zz_; (with_reducible refine gate_dst (N := 1) rfl ?_); refine box_event ?hg (N := 1) ?hd (cs := #[.int .i64 a0_0, .int .i64 a0_1, .int .i64 a0_2, .int .i64 a0_3, .int .i64 a0_4, .int .i64 a0_5, .bool true, .bool a0_7, .slice A0_8 l0_8.length c0_8]) (t := 37) ?hr ?_; (case hd => rfl); (case hg => rfl); (case hr => first | (go_simp; done) | (go_simp; rfl)); intro gb2120 hg w2121 hbox hb; have n0_ := mk_ (below_step (ub_ HB.out) hb); have BK154 := mk_ (hbox); have GW154 := mk_ ((by rw [hg]; exact (below_size (ub_ HB.out)) : w.heap.size ≤ gb2120)); have GE154 := ge_ ((by rw [hg]; exact (below_size (ub_ HB.out)) : w.heap.size ≤ gb2120)); replace HB := n0_; clear n0_; clear hb hbox hg; obtain ⟨hcz280154_0, hcz280154_1, hcz280154_2, hcz280154_3, hcz280154_4, hcz280154_5, hcz280154_6, hcz280154_7, hcz280154_8, hfz280154_0, hfz280154_1, hfz280154_2, hfz280154_3, hfz280154_4, hfz280154_5, hfz280154_6, hfz280154_7, hfz280154_8⟩ := cells9_ BK154.out) | (have zz_ := z31_; clear zz_; (with_reducible refine gate_dst (N := 1) rfl ?_); refine box_event ?hg (N := 1) ?hd (cs := #[.int .i64 a0_0, .int .i64 a0_1, .int .i64 a0_2, .int .i64 a0_3, .int .i64 a0_4, .int .i64 a0_5, .bool true, .bool false, .slice A0_8 l0_8.length c0_8]) (t := 37) ?hr ?_; (case hd => rfl); (case hg => rfl); (case hr => first | (go_simp; done) | (go_simp; rfl)); intro gb2120 hg w2121 hbox hb; have n0_ := mk_ (below_step (ub_ HB.out) hb); have BK154 := mk_ (hbox); have GW154 := mk_ ((by rw [hg]; exact (below_size (ub_ HB.out)) : w.heap.size ≤ gb2120)); have GE154 := ge_ ((by rw [hg]; exact (below_size (ub_ HB.out)) : w.heap.size ≤ gb2120)); replace HB := n0_; clear n0_; clear hb hbox hg; obtain ⟨_, _, _, _, _, _, _, _, _, _, _, _, _, _, _, _, _, _⟩ := cells9_ BK154.out) | (have zz_ := z32_; clear zz_; (with_reducible refine gate_dst (N := 1) rfl ?_); refine box_event ?hg (N := 1) ?hd (cs := #[.int .i64 a0_0, .int .i64 a0_1, .int .i64 a0_2, .int .i64 a0_3, .int .i64 a0_4, .int .i64 a0_5, .bool true, .bool true, .slice A0_8 l0_8.length c0_8]) (t := 37) ?hr ?_; (case hd => rfl); (case hg => rfl); (case hr => first | (go_simp; done) | (go_simp; rfl)); intro gb2120 hg w2121 hbox hb; have n0_ := mk_ (below_step (ub_ HB.out) hb); have BK154 := mk_ (hbox); have GW154 := mk_ ((by rw [hg]; exact (below_size (ub_ HB.out)) : w.heap.size ≤ gb2120)); have GE154 := ge_ ((by rw [hg]; exact (below_size (ub_ HB.out)) : w.heap.size ≤ gb2120)); replace HB := n0_; clear n0_; clear hb hbox hg; obtain ⟨hcz280154_0, hcz280154_1, hcz280154_2, hcz280154_3, hcz280154_4, hcz280154_5, hcz280154_6, hcz280154_7, hcz280154_8, hfz280154_0, hfz280154_1, hfz280154_2, hfz280154_3, hfz280154_4, hfz280154_5, hfz280154_6, hfz280154_7, hfz280154_8⟩ := cells9_ BK154.out) | ((with_reducible refine gate_callee (f := 49) rfl ?_); refine goesL_ (some 5) rfl rfl Try.func49 (by kernel_rfl) rfl #[.int .i64 a0_0] rfl (by (try simp only [lm_, lo_, ln_]); try rfl) ?_; (with_reducible refine (impl_word.calls a0_0 false _ A2.out).mono ?_); rintro e w' ⟨rfl, ⟨nd, rfl⟩⟩; refine ⟨_, rfl, ?_⟩) | ((with_reducible refine gate_callee (f := 49) rfl ?_); have hA_ := A2.out; refine goesL_ (some 5) rfl rfl Try.func49 (by kernel_rfl) rfl #[.int .i64 a0_0] rfl (by (try simp only [lm_, lo_, ln_]); try rfl) ?_; (with_reducible refine (impl_word.calls a0_0 true _ A2.out).mono ?_); rintro e w' ⟨rfl, ⟨nd, rfl⟩⟩; refine ⟨_, rfl, ?_⟩; clear hA_ A2) | (go_at_call 49; have hA_ := A4.out; (with_reducible refine (impl_word.calls a0_1 false _ A4.out).mono ?_); rintro e w' ⟨rfl, ⟨nd, rfl⟩⟩; clear hA_ A4) | (go_at_call 49; have hA_ := A4.out; (with_reducible refine (impl_word.calls a0_1 true _ A4.out).mono ?_); rintro e w' ⟨rfl, ⟨nd, rfl⟩⟩; clear hA_ A4) | (go_at_call 48; (with_reducible refine (impl_in.calls a0_2 0 255 false _ A6.out).mono ?_); rintro e w' ⟨rfl, ⟨nd, rfl⟩⟩) | (go_at_call 48; have hA_ := A6.out; (with_reducible refine (impl_in.calls a0_2 0 255 true _ A6.out).mono ?_); rintro e w' ⟨rfl, ⟨nd, rfl⟩⟩; clear hA_ A6) | (go_at_call 48; have hA_ := A8.out; (with_reducible refine (impl_in.calls a0_3 0 255 false _ A8.out).mono ?_); rintro e w' ⟨rfl, ⟨nd, rfl⟩⟩; clear hA_ A8) | (go_at_call 48; have hA_ := A8.out; (with_reducible refine (impl_in.calls a0_3 0 255 true _ A8.out).mono ?_); rintro e w' ⟨rfl, ⟨nd, rfl⟩⟩; clear hA_ A8) | (go_at_call 48; have hA_ := A10.out; (with_reducible refine (impl_in.calls a0_4 0 255 false _ A10.out).mono ?_); rintro e w' ⟨rfl, ⟨nd, rfl⟩⟩; clear hA_ A10) | (go_at_call 48; have hA_ := A10.out; (with_reducible refine (impl_in.calls a0_4 0 255 true _ A10.out).mono ?_); rintro e w' ⟨rfl, ⟨nd, rfl⟩⟩; clear hA_ A10) | (go_at_call 48; have hA_ := A12.out; (with_reducible refine (impl_in.calls a0_5 0 255 false _ A12.out).mono ?_); rintro e w' ⟨rfl, ⟨nd, rfl⟩⟩; clear hA_ A12) | (go_at_call 48; have hA_ := A12.out; (with_reducible refine (impl_in.calls a0_5 0 255 true _ A12.out).mono ?_); rintro e w' ⟨rfl, ⟨nd, rfl⟩⟩; clear hA_ A12))
  go_ret
  exact ⟨by first | rfl | (simp [errW_none, errW_some] <;> rfl) | (simp [*, errW_none, errW_some] <;> rfl), us_ HB.out⟩

/-! ### impl_noted: function 58 -/
def impl_noted.f (k : Nat) (a0 : Int) (a1_0 : Int) (a1_1 : Int) (a1_2 : Int) (a1_3 : Int) (a1_4 : Int) (a1_5 : Int) (a1_6 : Bool) (a1_7 : Bool) (l1_8 : List Int) (a2_0 : Int) (a2_1 : Int) (l2_2 : List Int) : Option (Int × Int × Int × Int × Int × Int × Bool × Bool × List Int) := (impl_NoteBytes.f k a2_0 a2_1 l2_2).bind fun t164 => (some (a0, a1_0, 1, 64, a1_4, 0, false, false, t164))
theorem impl_noted.mono : ∀ a0 a1 a2 a3 a4 a5 a6 a7 a8 a9 a10 a11 a12 k, LeO (impl_noted.f k a0 a1 a2 a3 a4 a5 a6 a7 a8 a9 a10 a11 a12) (impl_noted.f (k + 1) a0 a1 a2 a3 a4 a5 a6 a7 a8 a9 a10 a11 a12) := by
 intro a0 a1 a2 a3 a4 a5 a6 a7 a8 a9 a10 a11 a12 k
 unfold impl_noted.f
 repeat' first
   | (with_reducible exact impl_NoteBytes.mono _ _ _ _)
   | (with_reducible exact LeO.refl _)
   | (with_reducible exact LeO.none _)
   | (with_reducible refine LeO.ite ?_ ?_)
   | (with_reducible refine LeO.bind ?_ (fun _ => ?_))
   | exact impl_NoteBytes.mono _ _ _ _
   | exact LeO.none _
   | refine LeO.ite ?_ ?_
   | refine LeO.bind ?_ (fun _ => ?_)
def impl_noted.T1 : Bool × List (List Nat × List Nat) := (true, [([], []), ([], []), ([1], [1]), ([], []), ([3], [3]), ([], []), ([5], [5]), ([0, 2, 4, 6], [0, 2, 4, 6]), ([7, 6, 0, 1, 2, 3, 4, 5, 6, 7], [7])])
def impl_noted.B1 : List Nat := [0, 0, 2, 0, 8, 0, 32, 127, 255]
theorem impl_noted.tab1 : rtab .any (opsOf Try.f58 1) = impl_noted.T1 := by kernel_rfl
theorem impl_noted.bits1 : waitsOk impl_noted.T1.2 impl_noted.B1 = true := by kernel_rfl
set_option maxHeartbeats 8000000 in
set_option maxRecDepth 100000 in
theorem impl_noted.calls (k : Nat) (a0 : Int) (a1_0 : Int) (a1_1 : Int) (a1_2 : Int) (a1_3 : Int) (a1_4 : Int) (a1_5 : Int) (a1_6 : Bool) (a1_7 : Bool) (A1_8 : Option Addr) (c1_8 : Nat) (l1_8 : List Int) (a2_0 : Int) (a2_1 : Int) (A2_2 : Option Addr) (c2_2 : Nat) (l2_2 : List Int) (r1 : Int) (r2 : Int) (r3 : Int) (r4 : Int) (r5 : Int) (r6 : Int) (r7 : Bool) (r8 : Bool) (r9 : List Int) (w : World) (hr1_8 : Kd.C (Kd.int .u8) w A1_8 l1_8.length l1_8) (hc1_8 : l1_8.length ≤ c1_8) (hr2_2 : Kd.C (Kd.int .u8) w A2_2 l2_2.length l2_2) (hc2_2 : l2_2.length ≤ c2_2) (h : impl_noted.f k a0 a1_0 a1_1 a1_2 a1_3 a1_4 a1_5 a1_6 a1_7 l1_8 a2_0 a2_1 l2_2 = some (r1, r2, r3, r4, r5, r6, r7, r8, r9)) :
  Calls Try.prog 58 #[.int .i64 a0, .agg #[.int .i64 a1_0, .int .i64 a1_1, .int .i64 a1_2, .int .i64 a1_3, .int .i64 a1_4, .int .i64 a1_5, .bool a1_6, .bool a1_7, .slice A1_8 l1_8.length c1_8], .agg #[.int .i64 a2_0, .int .i64 a2_1, .slice A2_2 l2_2.length c2_2]] w fun e w' => ∃ v8_ : Value, e = .returned (.agg #[.int .i64 r1, .int .i64 r2, .int .i64 r3, .int .i64 r4, .int .i64 r5, .int .i64 r6, .bool r7, .bool r8, v8_]) ∧ Kd.R (Kd.int .u8) 5 w' w.heap.size (fun _ => True) v8_ r9 ∧ Below w.heap.size w w' := by
 have hu37 := Try.underlying37
 have hu44 := Try.underlying44
 have HR1_8 := mk_ hr1_8
 have HC1_8 := mk_ hc1_8
 clear hr1_8 hc1_8
 have HR2_2 := mk_ hr2_2
 have HC2_2 := mk_ hc2_2
 clear hr2_2 hc2_2
 have HB := mk_ (Below.refl w.heap.size w)
 have H := h
 unfold impl_noted.f at H
 clear h
 replace H := Option.bind_eq_some_iff.mp H
 obtain ⟨t164, A40, H⟩ := H
 replace H : (some (a0, a1_0, 1, 64, a1_4, 0, false, false, t164)) = some (r1, r2, r3, r4, r5, r6, r7, r8, r9) := H
 have A4 := mk_ A40
 clear A40
 simp only [Option.some.injEq, Prod.mk.injEq] at H
 obtain ⟨rfl, rfl, rfl, rfl, rfl, rfl, rfl, rfl, rfl⟩ := H
 go_enter Try.func58, Try.ntmps58
 try go_wp2_with (first | ((with_reducible refine gate_dst (N := 4) rfl ?_); refine box_event ?hg (N := 4) ?hd (cs := #[.int .i64 a1_0, .int .i64 a1_1, .int .i64 a1_2, .int .i64 a1_3, .int .i64 a1_4, .int .i64 a1_5, .bool a1_6, .bool a1_7, .slice A1_8 l1_8.length c1_8]) (t := 37) ?hr ?_; (case hd => rfl); (case hg => rfl); (case hr => first | (go_simp; done) | (go_simp; rfl)); intro gb161 hg w5 hbox hb; have n0_ := mk_ (below_step (ub_ HB.out) hb); have BK161 := mk_ (hbox); have GW161 := mk_ ((by rw [hg]; exact (below_size (ub_ HB.out)) : w.heap.size ≤ gb161)); have GE161 := ge_ ((by rw [hg]; exact (below_size (ub_ HB.out)) : w.heap.size ≤ gb161)); replace HB := n0_; clear n0_; clear hb hbox hg) | ((with_reducible refine gate_dst (N := 5) rfl ?_); refine box_event ?hg (N := 5) ?hd (cs := #[.int .i64 a2_0, .int .i64 a2_1, .slice A2_2 l2_2.length c2_2]) (t := 44) ?hr ?_; (case hd => rfl); (case hg => rfl); (case hr => first | (go_simp; done) | (go_simp; rfl)); intro gb162 hg w6 hbox hb; have n0_ := mk_ (blk_below (u_ BK161.out) hb); have n1_ := mk_ (below_step (us_ HB.out) hb); have BK162 := mk_ (hbox); have GW162 := mk_ ((by rw [hg]; exact (below_size (us_ HB.out)) : w.heap.size ≤ gb162)); have GE162 := ge_ ((by rw [hg]; exact (below_size (us_ HB.out)) : w.heap.size ≤ gb162)); have NB161_162 := nq_ ((by rw [hg]; exact Nat.ne_of_lt (blk_lt (u_ BK161.out)) : gb161 ≠ gb162)); have NB162_161 := nq_ ((by rw [hg]; exact Nat.ne_of_gt (blk_lt (u_ BK161.out)) : gb162 ≠ gb161)); replace BK161 := n0_; replace HB := n1_; clear n0_ n1_; clear hb hbox hg) | ((with_reducible refine gate_dst (N := 6) rfl ?_); refine box_event ?hg (N := 6) ?hd (cs := #[.int .i64 0, .int .i64 0, .int .i64 0, .int .i64 0, .int .i64 0, .int .i64 0, .bool false, .bool false, .slice none 0 0]) (t := 37) ?hr ?_; (case hd => rfl); (case hg => rfl); (case hr => first | (go_simp; done) | (go_simp; rfl)); intro gb163 hg w7 hbox hb; have n0_ := mk_ (blk_below (u_ BK161.out) hb); have n1_ := mk_ (blk_below (u_ BK162.out) hb); have n2_ := mk_ (below_step (us_ HB.out) hb); have BK163 := mk_ (hbox); have GW163 := mk_ ((by rw [hg]; exact (below_size (us_ HB.out)) : w.heap.size ≤ gb163)); have GE163 := ge_ ((by rw [hg]; exact (below_size (us_ HB.out)) : w.heap.size ≤ gb163)); have NB161_163 := nq_ ((by rw [hg]; exact Nat.ne_of_lt (blk_lt (u_ BK161.out)) : gb161 ≠ gb163)); have NB163_161 := nq_ ((by rw [hg]; exact Nat.ne_of_gt (blk_lt (u_ BK161.out)) : gb163 ≠ gb161)); have NB162_163 := nq_ ((by rw [hg]; exact Nat.ne_of_lt (blk_lt (u_ BK162.out)) : gb162 ≠ gb163)); have NB163_162 := nq_ ((by rw [hg]; exact Nat.ne_of_gt (blk_lt (u_ BK162.out)) : gb163 ≠ gb162)); replace BK161 := n0_; replace BK162 := n1_; replace HB := n2_; clear n0_ n1_ n2_; clear hb hbox hg))
 have n0_ := mk_ (blk_drew BK161.out)
 have n1_ := mk_ (blk_drew BK162.out)
 have n2_ := mk_ (blk_drew BK163.out)
 have n3_ := mk_ (below_drew1 HB.out)
 clear BK161
 clear BK162
 clear BK163
 clear HB
 have BK161 := n0_
 have BK162 := n1_
 have BK163 := n2_
 have HB := n3_
 clear n0_ n1_ n2_ n3_
 refine start_ (n := 9) (S := fun w' => w'.cell? ⟨gb161, 0, none⟩ = some (.int .i64 a1_0) ∧ w'.cell? ⟨gb161, 1, none⟩ = some (.int .i64 a1_1) ∧ w'.cell? ⟨gb161, 2, none⟩ = some (.int .i64 a1_2) ∧ w'.cell? ⟨gb161, 3, none⟩ = some (.int .i64 a1_3) ∧ w'.cell? ⟨gb161, 4, none⟩ = some (.int .i64 a1_4) ∧ w'.cell? ⟨gb161, 5, none⟩ = some (.int .i64 a1_5) ∧ w'.cell? ⟨gb161, 6, none⟩ = some (.bool a1_6) ∧ w'.cell? ⟨gb161, 7, none⟩ = some (.bool a1_7) ∧ w'.cell? ⟨gb161, 8, none⟩ = some (.slice A1_8 l1_8.length c1_8) ∧ w'.cell? ⟨gb162, 0, none⟩ = some (.int .i64 a2_0) ∧ w'.cell? ⟨gb162, 1, none⟩ = some (.int .i64 a2_1) ∧ w'.cell? ⟨gb162, 2, none⟩ = some (.slice A2_2 l2_2.length c2_2)) (ds := []) #[F_, F_, F_, F_, F_, F_, F_, F_, F_] (by kernel_rfl) rfl rfl ⟨(blk_cell BK161.out 0).trans rfl, (blk_cell BK161.out 1).trans rfl, (blk_cell BK161.out 2).trans rfl, (blk_cell BK161.out 3).trans rfl, (blk_cell BK161.out 4).trans rfl, (blk_cell BK161.out 5).trans rfl, (blk_cell BK161.out 6).trans rfl, (blk_cell BK161.out 7).trans rfl, (blk_cell BK161.out 8).trans rfl, (blk_cell BK162.out 0).trans rfl, (blk_cell BK162.out 1).trans rfl, (blk_cell BK162.out 2).trans rfl⟩ (fun hHeld => ?_); refine with_tabW impl_noted.tab1 impl_noted.bits1 (fun HT_ HW_ => ?_)
 generalize w7.drew = w8 at BK161 BK162 BK163 HB hHeld ⊢
 refine pure_ (i := 0) (N := some 7) (v := ?_) (a' := ?_) #[T_, F_, F_, F_, F_, F_, F_, F_, F_] rfl rfl (any_of HT_.out (by kernel_rfl)) (fun _ _ _ h => h) (Or.inl ⟨by rfl, ?_⟩) ?_ ?_
 rotate_left
 ·intro w'
  go_simp
  with_reducible rfl
 rotate_left
 ·simp only [Act.put, la_, lz_, ls_, i64_w, i32_w]
  rfl
 refine pure_ (i := 1) (N := some 8) (v := ?_) (a' := ?_) #[T_, T_, F_, F_, F_, F_, F_, F_, F_] rfl rfl (any_of HT_.out (by kernel_rfl)) (fun _ _ _ h => h) (Or.inl ⟨by rfl, ?_⟩) ?_ ?_
 rotate_left
 ·intro w'
  go_simp
  with_reducible rfl
 rotate_left
 ·simp only [Act.put, la_, lz_, ls_, i64_w, i32_w]
  rfl
 refine pure_ (i := 3) (N := some 10) (v := ?_) (a' := ?_) #[T_, T_, F_, T_, F_, F_, F_, F_, F_] rfl rfl (any_of HT_.out (by kernel_rfl)) (fun _ _ _ h => h) (Or.inl ⟨by rfl, ?_⟩) ?_ ?_
 rotate_left
 ·intro w'
  go_simp
  with_reducible rfl
 rotate_left
 ·simp only [Act.put, la_, lz_, ls_, i64_w, i32_w]
  rfl
 refine take_ (i := 2) (N := some 9) (v := ?_) (a' := ?_) #[T_, T_, T_, T_, F_, F_, F_, F_, F_] rfl rfl (take_ofW HT_.out HW_.out (by kernel_rfl)) (fun _ _ _ h => h) (Or.inl ⟨by rfl, ?_⟩) hHeld ?_ ?_
 rotate_left
 ·rintro w' ⟨s0, s1, s2, s3, s4, s5, s6, s7, s8, s9, s10, s11⟩
  go_simp
  with_reducible rfl
 rotate_left
 ·simp only [Act.put, la_, lz_, ls_, i64_w, i32_w]
  rfl
 refine take_ (i := 4) (N := some 11) (v := ?_) (a' := ?_) #[T_, T_, T_, T_, T_, F_, F_, F_, F_] rfl rfl (take_ofW HT_.out HW_.out (by kernel_rfl)) (fun _ _ _ h => h) (Or.inl ⟨by rfl, ?_⟩) hHeld ?_ ?_
 rotate_left
 ·rintro w' ⟨s0, s1, s2, s3, s4, s5, s6, s7, s8, s9, s10, s11⟩
  go_simp
  with_reducible rfl
 rotate_left
 ·simp only [Act.put, la_, lz_, ls_, i64_w, i32_w]
  rfl
 refine take_ (i := 5) (N := some 12) (v := ?_) (a' := ?_) #[T_, T_, T_, T_, T_, T_, F_, F_, F_] rfl rfl (take_ofW HT_.out HW_.out (by kernel_rfl)) (fun _ _ _ h => h) (Or.inl ⟨by rfl, ?_⟩) hHeld ?_ ?_
 rotate_left
 ·rintro w' ⟨s0, s1, s2, s3, s4, s5, s6, s7, s8, s9, s10, s11⟩
  go_simp
  with_reducible rfl
 rotate_left
 ·simp only [Act.put, la_, lz_, ls_, i64_w, i32_w]
  rfl
 refine one_ (i := 6) (N := some 13) #[T_, T_, T_, T_, T_, T_, T_, F_, F_] rfl rfl (one_of HT_.out (by kernel_rfl)) (by decide) (fun K hK => ?_)
 refine goes_ Try.func65 (by kernel_rfl) rfl #[.agg #[.int .i64 a2_0, .int .i64 a2_1, .slice A2_2 l2_2.length c2_2]] (by rfl) rfl rfl (by (try simp only [lm_, lo_, ln_]); try rfl) ?_
 with_reducible refine (impl_NoteBytes.calls k a2_0 a2_1 (fun k_ => k_ < w.heap.size) _ _ l2_2 t164 _ ?side1 A4.out).mono ?_
 (case side1 => exact Kd.V_mk HC2_2.out (Kd.F_below (Kd.C_F (Kd.heap_int .u8) HR2_2.out) (us_ HB.out)))
 rintro e w9 ⟨v165, rfl, ho0, hb⟩
 refine ⟨_, rfl, ?_⟩
 have n0_ := mk_ (Kd.R_lower (Kd.R_mono (ok' := fun k_ => True) ho0 (fun _ hk_ => trivial)) (below_size (us_ HB.out)))
 have n1_ := mk_ (blk_below (u_ BK161.out) hb)
 have n2_ := mk_ (blk_below (u_ BK162.out) hb)
 have n3_ := mk_ (blk_below (u_ BK163.out) hb)
 have n4_ := mk_ (below_step (us_ HB.out) hb)
 clear BK161
 clear BK162
 clear BK163
 clear HB
 have HO166 := n0_
 have BK161 := n1_
 have BK162 := n2_
 have BK163 := n3_
 have HB := n4_
 clear n0_ n1_ n2_ n3_ n4_
 (try clear hb)
 (try clear hb2)
 (try clear hk)
 (try clear hi)
 (try clear ho0)
 obtain ⟨Ao10, co10, eo10⟩ := Kd.R_slice HO166.out
 (first | subst eo10 | (injection eo10 with f1_ f2_ f3_; have f4_ := f1_.symm; have f5_ := f3_.symm; clear f1_ f2_ f3_; subst f4_; subst f5_))
 refine hK.out _ _ ⟨(blk_cell BK161.out 0).trans rfl, (blk_cell BK161.out 1).trans rfl, (blk_cell BK161.out 2).trans rfl, (blk_cell BK161.out 3).trans rfl, (blk_cell BK161.out 4).trans rfl, (blk_cell BK161.out 5).trans rfl, (blk_cell BK161.out 6).trans rfl, (blk_cell BK161.out 7).trans rfl, (blk_cell BK161.out 8).trans rfl, (blk_cell BK162.out 0).trans rfl, (blk_cell BK162.out 1).trans rfl, (blk_cell BK162.out 2).trans rfl⟩ (fun hHeld => ?_)
 clear hK K
 refine norm_ (a' := ?_) ?_ ?_
 rotate_left
 ·show Act.put _ (some 13) _ = _
  simp only [Act.put, la_, lz_, ls_, i64_w, i32_w]
  rfl
 refine pure_ (i := 7) (N := some 14) (v := ?_) (a' := ?_) #[T_, T_, T_, T_, T_, T_, T_, T_, F_] rfl rfl (any_of HT_.out (by kernel_rfl)) (fun _ _ _ h => h) (Or.inl ⟨by rfl, ?_⟩) ?_ ?_
 rotate_left
 ·intro w'
  go_simp
  with_reducible rfl
 rotate_left
 ·simp only [Act.put, la_, lz_, ls_, i64_w, i32_w]
  rfl
 refine one_ (i := 8) (N := none) #[T_, T_, T_, T_, T_, T_, T_, T_, T_] rfl rfl (one_of HT_.out (by kernel_rfl)) (by decide) (fun K hK => ?_)
 have hs11 : w9.cell? ⟨gb163, 0, none⟩ = some (.int .i64 0) := (blk_cell BK163.out 0).trans rfl
 have hfs11 := blk_frozen BK163.out 0
 have hns11_0 := NB161_163.out
 have hns11_1 := NB162_163.out
 have hms11_0 := NB163_161.out
 have hms11_1 := NB163_162.out
 have hs12 : w9.cell? ⟨gb163, 1, none⟩ = some (.int .i64 0) := (blk_cell BK163.out 1).trans rfl
 have hfs12 := blk_frozen BK163.out 1
 have hns12_0 := NB161_163.out
 have hns12_1 := NB162_163.out
 have hms12_0 := NB163_161.out
 have hms12_1 := NB163_162.out
 have hs13 : w9.cell? ⟨gb163, 2, none⟩ = some (.int .i64 0) := (blk_cell BK163.out 2).trans rfl
 have hfs13 := blk_frozen BK163.out 2
 have hns13_0 := NB161_163.out
 have hns13_1 := NB162_163.out
 have hms13_0 := NB163_161.out
 have hms13_1 := NB163_162.out
 have hs14 : w9.cell? ⟨gb163, 3, none⟩ = some (.int .i64 0) := (blk_cell BK163.out 3).trans rfl
 have hfs14 := blk_frozen BK163.out 3
 have hns14_0 := NB161_163.out
 have hns14_1 := NB162_163.out
 have hms14_0 := NB163_161.out
 have hms14_1 := NB163_162.out
 have hs15 : w9.cell? ⟨gb163, 4, none⟩ = some (.int .i64 0) := (blk_cell BK163.out 4).trans rfl
 have hfs15 := blk_frozen BK163.out 4
 have hns15_0 := NB161_163.out
 have hns15_1 := NB162_163.out
 have hms15_0 := NB163_161.out
 have hms15_1 := NB163_162.out
 have hs16 : w9.cell? ⟨gb163, 5, none⟩ = some (.int .i64 0) := (blk_cell BK163.out 5).trans rfl
 have hfs16 := blk_frozen BK163.out 5
 have hns16_0 := NB161_163.out
 have hns16_1 := NB162_163.out
 have hms16_0 := NB163_161.out
 have hms16_1 := NB163_162.out
 have hs17 : w9.cell? ⟨gb163, 6, none⟩ = some (.bool false) := (blk_cell BK163.out 6).trans rfl
 have hfs17 := blk_frozen BK163.out 6
 have hns17_0 := NB161_163.out
 have hns17_1 := NB162_163.out
 have hms17_0 := NB163_161.out
 have hms17_1 := NB163_162.out
 have hs18 : w9.cell? ⟨gb163, 7, none⟩ = some (.bool false) := (blk_cell BK163.out 7).trans rfl
 have hfs18 := blk_frozen BK163.out 7
 have hns18_0 := NB161_163.out
 have hns18_1 := NB162_163.out
 have hms18_0 := NB163_161.out
 have hms18_1 := NB163_162.out
 have hs19 : w9.cell? ⟨gb163, 8, none⟩ = some (.slice none 0 0) := (blk_cell BK163.out 8).trans rfl
 have hfs19 := blk_frozen BK163.out 8
 have hns19_0 := NB161_163.out
 have hns19_1 := NB162_163.out
 have hms19_0 := NB163_161.out
 have hms19_1 := NB163_162.out
 refine skip_ (w1 := ?_) (by rfl) rfl ?_ ?_
 rotate_left
 ·go_simp
  rfl
 refine hK.out _ _ ⟨((cell_far (p := ⟨gb163, _, none⟩) NB161_163.out _).trans (((cell_far (p := ⟨gb163, _, none⟩) NB161_163.out _).trans (((cell_far (p := ⟨gb163, _, none⟩) NB161_163.out _).trans (((cell_far (p := ⟨gb163, _, none⟩) NB161_163.out _).trans (((cell_far (p := ⟨gb163, _, none⟩) NB161_163.out _).trans (((cell_far (p := ⟨gb163, _, none⟩) NB161_163.out _).trans (((cell_far (p := ⟨gb163, _, none⟩) NB161_163.out _).trans (((cell_far (p := ⟨gb163, _, none⟩) NB161_163.out _).trans (((cell_far (p := ⟨gb163, _, none⟩) NB161_163.out _).trans (hHeld.1)))))))))))))))))), ((cell_far (p := ⟨gb163, _, none⟩) NB161_163.out _).trans (((cell_far (p := ⟨gb163, _, none⟩) NB161_163.out _).trans (((cell_far (p := ⟨gb163, _, none⟩) NB161_163.out _).trans (((cell_far (p := ⟨gb163, _, none⟩) NB161_163.out _).trans (((cell_far (p := ⟨gb163, _, none⟩) NB161_163.out _).trans (((cell_far (p := ⟨gb163, _, none⟩) NB161_163.out _).trans (((cell_far (p := ⟨gb163, _, none⟩) NB161_163.out _).trans (((cell_far (p := ⟨gb163, _, none⟩) NB161_163.out _).trans (((cell_far (p := ⟨gb163, _, none⟩) NB161_163.out _).trans (hHeld.2.1)))))))))))))))))), ((cell_far (p := ⟨gb163, _, none⟩) NB161_163.out _).trans (((cell_far (p := ⟨gb163, _, none⟩) NB161_163.out _).trans (((cell_far (p := ⟨gb163, _, none⟩) NB161_163.out _).trans (((cell_far (p := ⟨gb163, _, none⟩) NB161_163.out _).trans (((cell_far (p := ⟨gb163, _, none⟩) NB161_163.out _).trans (((cell_far (p := ⟨gb163, _, none⟩) NB161_163.out _).trans (((cell_far (p := ⟨gb163, _, none⟩) NB161_163.out _).trans (((cell_far (p := ⟨gb163, _, none⟩) NB161_163.out _).trans (((cell_far (p := ⟨gb163, _, none⟩) NB161_163.out _).trans (hHeld.2.2.1)))))))))))))))))), ((cell_far (p := ⟨gb163, _, none⟩) NB161_163.out _).trans (((cell_far (p := ⟨gb163, _, none⟩) NB161_163.out _).trans (((cell_far (p := ⟨gb163, _, none⟩) NB161_163.out _).trans (((cell_far (p := ⟨gb163, _, none⟩) NB161_163.out _).trans (((cell_far (p := ⟨gb163, _, none⟩) NB161_163.out _).trans (((cell_far (p := ⟨gb163, _, none⟩) NB161_163.out _).trans (((cell_far (p := ⟨gb163, _, none⟩) NB161_163.out _).trans (((cell_far (p := ⟨gb163, _, none⟩) NB161_163.out _).trans (((cell_far (p := ⟨gb163, _, none⟩) NB161_163.out _).trans (hHeld.2.2.2.1)))))))))))))))))), ((cell_far (p := ⟨gb163, _, none⟩) NB161_163.out _).trans (((cell_far (p := ⟨gb163, _, none⟩) NB161_163.out _).trans (((cell_far (p := ⟨gb163, _, none⟩) NB161_163.out _).trans (((cell_far (p := ⟨gb163, _, none⟩) NB161_163.out _).trans (((cell_far (p := ⟨gb163, _, none⟩) NB161_163.out _).trans (((cell_far (p := ⟨gb163, _, none⟩) NB161_163.out _).trans (((cell_far (p := ⟨gb163, _, none⟩) NB161_163.out _).trans (((cell_far (p := ⟨gb163, _, none⟩) NB161_163.out _).trans (((cell_far (p := ⟨gb163, _, none⟩) NB161_163.out _).trans (hHeld.2.2.2.2.1)))))))))))))))))), ((cell_far (p := ⟨gb163, _, none⟩) NB161_163.out _).trans (((cell_far (p := ⟨gb163, _, none⟩) NB161_163.out _).trans (((cell_far (p := ⟨gb163, _, none⟩) NB161_163.out _).trans (((cell_far (p := ⟨gb163, _, none⟩) NB161_163.out _).trans (((cell_far (p := ⟨gb163, _, none⟩) NB161_163.out _).trans (((cell_far (p := ⟨gb163, _, none⟩) NB161_163.out _).trans (((cell_far (p := ⟨gb163, _, none⟩) NB161_163.out _).trans (((cell_far (p := ⟨gb163, _, none⟩) NB161_163.out _).trans (((cell_far (p := ⟨gb163, _, none⟩) NB161_163.out _).trans (hHeld.2.2.2.2.2.1)))))))))))))))))), ((cell_far (p := ⟨gb163, _, none⟩) NB161_163.out _).trans (((cell_far (p := ⟨gb163, _, none⟩) NB161_163.out _).trans (((cell_far (p := ⟨gb163, _, none⟩) NB161_163.out _).trans (((cell_far (p := ⟨gb163, _, none⟩) NB161_163.out _).trans (((cell_far (p := ⟨gb163, _, none⟩) NB161_163.out _).trans (((cell_far (p := ⟨gb163, _, none⟩) NB161_163.out _).trans (((cell_far (p := ⟨gb163, _, none⟩) NB161_163.out _).trans (((cell_far (p := ⟨gb163, _, none⟩) NB161_163.out _).trans (((cell_far (p := ⟨gb163, _, none⟩) NB161_163.out _).trans (hHeld.2.2.2.2.2.2.1)))))))))))))))))), ((cell_far (p := ⟨gb163, _, none⟩) NB161_163.out _).trans (((cell_far (p := ⟨gb163, _, none⟩) NB161_163.out _).trans (((cell_far (p := ⟨gb163, _, none⟩) NB161_163.out _).trans (((cell_far (p := ⟨gb163, _, none⟩) NB161_163.out _).trans (((cell_far (p := ⟨gb163, _, none⟩) NB161_163.out _).trans (((cell_far (p := ⟨gb163, _, none⟩) NB161_163.out _).trans (((cell_far (p := ⟨gb163, _, none⟩) NB161_163.out _).trans (((cell_far (p := ⟨gb163, _, none⟩) NB161_163.out _).trans (((cell_far (p := ⟨gb163, _, none⟩) NB161_163.out _).trans (hHeld.2.2.2.2.2.2.2.1)))))))))))))))))), ((cell_far (p := ⟨gb163, _, none⟩) NB161_163.out _).trans (((cell_far (p := ⟨gb163, _, none⟩) NB161_163.out _).trans (((cell_far (p := ⟨gb163, _, none⟩) NB161_163.out _).trans (((cell_far (p := ⟨gb163, _, none⟩) NB161_163.out _).trans (((cell_far (p := ⟨gb163, _, none⟩) NB161_163.out _).trans (((cell_far (p := ⟨gb163, _, none⟩) NB161_163.out _).trans (((cell_far (p := ⟨gb163, _, none⟩) NB161_163.out _).trans (((cell_far (p := ⟨gb163, _, none⟩) NB161_163.out _).trans (((cell_far (p := ⟨gb163, _, none⟩) NB161_163.out _).trans (hHeld.2.2.2.2.2.2.2.2.1)))))))))))))))))), ((cell_far (p := ⟨gb163, _, none⟩) NB162_163.out _).trans (((cell_far (p := ⟨gb163, _, none⟩) NB162_163.out _).trans (((cell_far (p := ⟨gb163, _, none⟩) NB162_163.out _).trans (((cell_far (p := ⟨gb163, _, none⟩) NB162_163.out _).trans (((cell_far (p := ⟨gb163, _, none⟩) NB162_163.out _).trans (((cell_far (p := ⟨gb163, _, none⟩) NB162_163.out _).trans (((cell_far (p := ⟨gb163, _, none⟩) NB162_163.out _).trans (((cell_far (p := ⟨gb163, _, none⟩) NB162_163.out _).trans (((cell_far (p := ⟨gb163, _, none⟩) NB162_163.out _).trans (hHeld.2.2.2.2.2.2.2.2.2.1)))))))))))))))))), ((cell_far (p := ⟨gb163, _, none⟩) NB162_163.out _).trans (((cell_far (p := ⟨gb163, _, none⟩) NB162_163.out _).trans (((cell_far (p := ⟨gb163, _, none⟩) NB162_163.out _).trans (((cell_far (p := ⟨gb163, _, none⟩) NB162_163.out _).trans (((cell_far (p := ⟨gb163, _, none⟩) NB162_163.out _).trans (((cell_far (p := ⟨gb163, _, none⟩) NB162_163.out _).trans (((cell_far (p := ⟨gb163, _, none⟩) NB162_163.out _).trans (((cell_far (p := ⟨gb163, _, none⟩) NB162_163.out _).trans (((cell_far (p := ⟨gb163, _, none⟩) NB162_163.out _).trans (hHeld.2.2.2.2.2.2.2.2.2.2.1)))))))))))))))))), ((cell_far (p := ⟨gb163, _, none⟩) NB162_163.out _).trans (((cell_far (p := ⟨gb163, _, none⟩) NB162_163.out _).trans (((cell_far (p := ⟨gb163, _, none⟩) NB162_163.out _).trans (((cell_far (p := ⟨gb163, _, none⟩) NB162_163.out _).trans (((cell_far (p := ⟨gb163, _, none⟩) NB162_163.out _).trans (((cell_far (p := ⟨gb163, _, none⟩) NB162_163.out _).trans (((cell_far (p := ⟨gb163, _, none⟩) NB162_163.out _).trans (((cell_far (p := ⟨gb163, _, none⟩) NB162_163.out _).trans (((cell_far (p := ⟨gb163, _, none⟩) NB162_163.out _).trans (hHeld.2.2.2.2.2.2.2.2.2.2.2))))))))))))))))))⟩ (fun hHeld => ?_)
 clear hK K
 refine done_ (done_of HT_.out (by kernel_rfl)) ?_
 try go_wp2
 refine bodyPost_ret (results_cell_row rfl _ _ gb163 37 #[.int .i64 a0, .int .i64 a1_0, .int .i64 1, .int .i64 64, .int .i64 a1_4, .int .i64 0, .bool false, .bool false, .slice Ao10 t164.length co10] (0, 0) _ rfl (by (with_reducible repeat (first | refine bn_ ?_ _ | refine bw_ ?_ | refine ba_ ?_ _)); with_reducible apply blk_put9; (with_reducible repeat (first | refine bn_ ?_ _ | refine bw_ ?_ | refine ba_ ?_ _)); exact BK163.out) Try.underlying37 rfl (by kernel_rfl)) rfl ?_
 exact ⟨_, by first | rfl | (simp [errW_none, errW_some] <;> rfl) | (simp [*, errW_none, errW_some] <;> rfl), by (with_reducible repeat (first | apply Kd.R_alloc | apply Kd.R_drewN | apply Kd.R_drew)); exact Kd.R_mono (Kd.R_far9 (g := gb163) (Kd.R_types HO166.out BK163.out (by decide)) (fun _ hk => hk.2) _ _ _ _ _ _ _ _ _) (fun _ hk => trivial), us_ HB.out⟩

/-! ### impl_NoteEchoed: function 16 -/
def impl_NoteEchoed.f (k : Nat) (a0_0 : Int) (a0_1 : Int) (a0_2 : Int) (a0_3 : Int) (a0_4 : Int) (a0_5 : Int) (a0_6 : Bool) (a0_7 : Bool) (l0_8 : List Int) (a1 : Int) : Option (Int × Int × Int × Int × Int × Int × Bool × Bool × List Int × Bool) := (impl_NoteFrom.f k l0_8).bind fun bt169 => (if bt169.2.2.2 = true then ((impl_PacketOk.f a0_0 a0_1 a0_2 a0_3 a0_4 a0_5 a0_6 a0_7 l0_8).bind fun t176 => (if t176 = true then (if a0_1 = a1 then (if a0_5 = 0 then (if a0_6 = true then (some (0, 0, 0, 0, 0, 0, false, false, ([] : List Int), false)) else (if a0_2 = 1 then (if bt169.1 = 1 then ((impl_noted.f k a1 a0_0 a0_1 a0_2 a0_3 a0_4 a0_5 a0_6 a0_7 l0_8 2 bt169.2.1 bt169.2.2.1).bind fun bt177 => (some (bt177.1, bt177.2.1, bt177.2.2.1, bt177.2.2.2.1, bt177.2.2.2.2.1, bt177.2.2.2.2.2.1, bt177.2.2.2.2.2.2.1, bt177.2.2.2.2.2.2.2.1, bt177.2.2.2.2.2.2.2.2, true))) else (some (0, 0, 0, 0, 0, 0, false, false, ([] : List Int), false))) else (some (0, 0, 0, 0, 0, 0, false, false, ([] : List Int), false)))) else (some (0, 0, 0, 0, 0, 0, false, false, ([] : List Int), false))) else (some (0, 0, 0, 0, 0, 0, false, false, ([] : List Int), false))) else (some (0, 0, 0, 0, 0, 0, false, false, ([] : List Int), false)))) else (some (0, 0, 0, 0, 0, 0, false, false, ([] : List Int), false)))
theorem impl_NoteEchoed.mono : ∀ a0 a1 a2 a3 a4 a5 a6 a7 a8 a9 k, LeO (impl_NoteEchoed.f k a0 a1 a2 a3 a4 a5 a6 a7 a8 a9) (impl_NoteEchoed.f (k + 1) a0 a1 a2 a3 a4 a5 a6 a7 a8 a9) := by
 intro a0 a1 a2 a3 a4 a5 a6 a7 a8 a9 k
 unfold impl_NoteEchoed.f
 repeat' first
   | (with_reducible exact impl_NoteFrom.mono _ _)
   | (with_reducible exact impl_noted.mono _ _ _ _ _ _ _ _ _ _ _ _ _ _)
   | (with_reducible exact LeO.refl _)
   | (with_reducible exact LeO.none _)
   | (with_reducible refine LeO.ite ?_ ?_)
   | (with_reducible refine LeO.bind ?_ (fun _ => ?_))
   | exact impl_NoteFrom.mono _ _
   | exact impl_noted.mono _ _ _ _ _ _ _ _ _ _ _ _ _ _
   | exact LeO.none _
   | refine LeO.ite ?_ ?_
   | refine LeO.bind ?_ (fun _ => ?_)
set_option maxHeartbeats 8000000 in
set_option maxRecDepth 100000 in
theorem impl_NoteEchoed.calls (k : Nat) (a0_0 : Int) (a0_1 : Int) (a0_2 : Int) (a0_3 : Int) (a0_4 : Int) (a0_5 : Int) (a0_6 : Bool) (a0_7 : Bool) (A0_8 : Option Addr) (c0_8 : Nat) (l0_8 : List Int) (a1 : Int) (r1 : Int) (r2 : Int) (r3 : Int) (r4 : Int) (r5 : Int) (r6 : Int) (r7 : Bool) (r8 : Bool) (r9 : List Int) (r10 : Bool) (w : World) (hr0_8 : Kd.C (Kd.int .u8) w A0_8 l0_8.length l0_8) (hc0_8 : l0_8.length ≤ c0_8) (h : impl_NoteEchoed.f k a0_0 a0_1 a0_2 a0_3 a0_4 a0_5 a0_6 a0_7 l0_8 a1 = some (r1, r2, r3, r4, r5, r6, r7, r8, r9, r10)) :
  Calls Try.prog 16 #[.agg #[.int .i64 a0_0, .int .i64 a0_1, .int .i64 a0_2, .int .i64 a0_3, .int .i64 a0_4, .int .i64 a0_5, .bool a0_6, .bool a0_7, .slice A0_8 l0_8.length c0_8], .int .i64 a1] w fun e w' => ∃ v8_ : Value, e = .returned (.tuple #[.agg #[.int .i64 r1, .int .i64 r2, .int .i64 r3, .int .i64 r4, .int .i64 r5, .int .i64 r6, .bool r7, .bool r8, v8_], .bool r10]) ∧ Kd.R (Kd.int .u8) 5 w' w.heap.size (fun _ => True) v8_ r9 ∧ Below w.heap.size w w' := by
 have hu37 := Try.underlying37
 have hu44 := Try.underlying44
 have HR0_8 := mk_ hr0_8
 have HC0_8 := mk_ hc0_8
 clear hr0_8 hc0_8
 have HB := mk_ (Below.refl w.heap.size w)
 have H := h
 unfold impl_NoteEchoed.f at H
 clear h
 replace H := Option.bind_eq_some_iff.mp H
 obtain ⟨⟨t169, t170, t171, t174⟩, A30, H⟩ := H
 (try dsimp only at H)
 have A3 := mk_ A30
 clear A30
 by_cases c4 : t174 = true
 rotate_left
 focus
  replace c4 := Bool.eq_false_iff.mpr c4
  subst c4
  rw [if_neg (show ¬ (false = true) by decide)] at H
  simp only [Option.some.injEq, Prod.mk.injEq] at H
  obtain ⟨rfl, rfl, rfl, rfl, rfl, rfl, rfl, rfl, rfl, rfl⟩ := H
 rotate_left
 focus
  subst c4
  rw [if_pos rfl] at H
  replace H := Option.bind_eq_some_iff.mp H
  obtain ⟨t176, A50, H⟩ := H
  (try dsimp only at H)
  have A5 := mk_ A50
  clear A50
  by_cases c6 : t176 = true
  rotate_left
  focus
   replace c6 := Bool.eq_false_iff.mpr c6
   subst c6
   rw [if_neg (show ¬ (false = true) by decide)] at H
   simp only [Option.some.injEq, Prod.mk.injEq] at H
   obtain ⟨rfl, rfl, rfl, rfl, rfl, rfl, rfl, rfl, rfl, rfl⟩ := H
  rotate_left
  focus
   subst c6
   rw [if_pos rfl] at H
   by_cases c7 : a0_1 = a1
   rotate_left
   focus
    rw [if_neg c7] at H
    have c7b0 : (a0_1 == a1) = false := beq_eq_false_iff_ne.mpr c7
    have c7b1 : (a0_1 != a1) = true := bne_iff_ne.mpr c7
    simp only [Option.some.injEq, Prod.mk.injEq] at H
    obtain ⟨rfl, rfl, rfl, rfl, rfl, rfl, rfl, rfl, rfl, rfl⟩ := H
   rotate_left
   focus
    rw [if_pos c7] at H
    have c7b0 : (a0_1 == a1) = true := beq_iff_eq.mpr c7
    have c7b1 : (a0_1 != a1) = false := bne_eq_false_iff_eq.mpr c7
    clear c7
    by_cases c8 : a0_5 = 0
    rotate_left
    focus
     rw [if_neg c8] at H
     have c8b0 : (a0_5 == 0) = false := beq_eq_false_iff_ne.mpr c8
     have c8b1 : (a0_5 != 0) = true := bne_iff_ne.mpr c8
     simp only [Option.some.injEq, Prod.mk.injEq] at H
     obtain ⟨rfl, rfl, rfl, rfl, rfl, rfl, rfl, rfl, rfl, rfl⟩ := H
    rotate_left
    focus
     rw [if_pos c8] at H
     have c8b0 : (a0_5 == 0) = true := beq_iff_eq.mpr c8
     have c8b1 : (a0_5 != 0) = false := bne_eq_false_iff_eq.mpr c8
     clear c8
     by_cases c9 : a0_6 = true
     focus
      subst c9
      rw [if_pos rfl] at H
      simp only [Option.some.injEq, Prod.mk.injEq] at H
      obtain ⟨rfl, rfl, rfl, rfl, rfl, rfl, rfl, rfl, rfl, rfl⟩ := H
     rotate_left
     focus
      replace c9 := Bool.eq_false_iff.mpr c9
      subst c9
      rw [if_neg (show ¬ (false = true) by decide)] at H
      by_cases c25 : a0_2 = 1
      rotate_left
      focus
       rw [if_neg c25] at H
       have c25b0 : (a0_2 == 1) = false := beq_eq_false_iff_ne.mpr c25
       have c25b1 : (a0_2 != 1) = true := bne_iff_ne.mpr c25
       simp only [Option.some.injEq, Prod.mk.injEq] at H
       obtain ⟨rfl, rfl, rfl, rfl, rfl, rfl, rfl, rfl, rfl, rfl⟩ := H
      rotate_left
      focus
       rw [if_pos c25] at H
       have c25b0 : (a0_2 == 1) = true := beq_iff_eq.mpr c25
       have c25b1 : (a0_2 != 1) = false := bne_eq_false_iff_eq.mpr c25
       clear c25
       by_cases c26 : t169 = 1
       rotate_left
       focus
        rw [if_neg c26] at H
        have c26b0 : (t169 == 1) = false := beq_eq_false_iff_ne.mpr c26
        have c26b1 : (t169 != 1) = true := bne_iff_ne.mpr c26
        simp only [Option.some.injEq, Prod.mk.injEq] at H
        obtain ⟨rfl, rfl, rfl, rfl, rfl, rfl, rfl, rfl, rfl, rfl⟩ := H
       rotate_left
       focus
        rw [if_pos c26] at H
        have c26b0 : (t169 == 1) = true := beq_iff_eq.mpr c26
        have c26b1 : (t169 != 1) = false := bne_eq_false_iff_eq.mpr c26
        clear c26
        replace H := Option.bind_eq_some_iff.mp H
        obtain ⟨⟨t177, t178, t179, t180, t181, t182, t183, t184, t185⟩, A270, H⟩ := H
        replace H : (some (t177, t178, t179, t180, t181, t182, t183, t184, t185, true)) = some (r1, r2, r3, r4, r5, r6, r7, r8, r9, r10) := H
        have A27 := mk_ A270
        clear A270
        simp only [Option.some.injEq, Prod.mk.injEq] at H
        obtain ⟨rfl, rfl, rfl, rfl, rfl, rfl, rfl, rfl, rfl, rfl⟩ := H
       rotate_left
      rotate_left 2
     rotate_left 3
    rotate_left 4
   rotate_left 5
  rotate_left 6
 rotate_left 7
 all_goals
  go_enter Try.func16, Try.ntmps16
 have z33_ := trivial
 have z36_ := trivial
 rotate_left
 have z33_ := trivial
 have z37_ := trivial
 rotate_left
 have z33_ := trivial
 have z37_ := trivial
 rotate_left
 have z33_ := trivial
 have z37_ := trivial
 rotate_left
 have z34_ := trivial
 have z38_ := trivial
 rotate_left
 have z35_ := trivial
 have z39_ := trivial
 rotate_left
 have z35_ := trivial
 have z39_ := trivial
 rotate_left
 have z35_ := trivial
 have z40_ := trivial
 rotate_left
 all_goals
  go_wp2_with (first | (have zz_ := z33_; clear zz_; (with_reducible refine gate_dst (N := 2) rfl ?_); refine box_event ?hg (N := 2) ?hd (cs := #[.int .i64 a0_0, .int .i64 a0_1, .int .i64 a0_2, .int .i64 a0_3, .int .i64 a0_4, .int .i64 a0_5, .bool a0_6, .bool a0_7, .slice A0_8 l0_8.length c0_8]) (t := 37) ?hr ?_; (case hd => rfl); (case hg => rfl); (case hr => first | (go_simp; done) | (go_simp; rfl)); intro gb21920 hg w21921 hbox hb; have n0_ := mk_ (below_step (ub_ HB.out) hb); have BK167 := mk_ (hbox); have GW167 := mk_ ((by rw [hg]; exact (below_size (ub_ HB.out)) : w.heap.size ≤ gb21920)); have GE167 := ge_ ((by rw [hg]; exact (below_size (ub_ HB.out)) : w.heap.size ≤ gb21920)); replace HB := n0_; clear n0_; clear hb hbox hg) | (have zz_ := z34_; clear zz_; (with_reducible refine gate_dst (N := 2) rfl ?_); refine box_event ?hg (N := 2) ?hd (cs := #[.int .i64 a0_0, .int .i64 a0_1, .int .i64 a0_2, .int .i64 a0_3, .int .i64 a0_4, .int .i64 a0_5, .bool true, .bool a0_7, .slice A0_8 l0_8.length c0_8]) (t := 37) ?hr ?_; (case hd => rfl); (case hg => rfl); (case hr => first | (go_simp; done) | (go_simp; rfl)); intro gb21920 hg w21921 hbox hb; have n0_ := mk_ (below_step (ub_ HB.out) hb); have BK167 := mk_ (hbox); have GW167 := mk_ ((by rw [hg]; exact (below_size (ub_ HB.out)) : w.heap.size ≤ gb21920)); have GE167 := ge_ ((by rw [hg]; exact (below_size (ub_ HB.out)) : w.heap.size ≤ gb21920)); replace HB := n0_; clear n0_; clear hb hbox hg) | (have zz_ := z35_; clear zz_; (with_reducible refine gate_dst (N := 2) rfl ?_); refine box_event ?hg (N := 2) ?hd (cs := #[.int .i64 a0_0, .int .i64 a0_1, .int .i64 a0_2, .int .i64 a0_3, .int .i64 a0_4, .int .i64 a0_5, .bool false, .bool a0_7, .slice A0_8 l0_8.length c0_8]) (t := 37) ?hr ?_; (case hd => rfl); (case hg => rfl); (case hr => first | (go_simp; done) | (go_simp; rfl)); intro gb21920 hg w21921 hbox hb; have n0_ := mk_ (below_step (ub_ HB.out) hb); have BK167 := mk_ (hbox); have GW167 := mk_ ((by rw [hg]; exact (below_size (ub_ HB.out)) : w.heap.size ≤ gb21920)); have GE167 := ge_ ((by rw [hg]; exact (below_size (ub_ HB.out)) : w.heap.size ≤ gb21920)); replace HB := n0_; clear n0_; clear hb hbox hg) | ((with_reducible refine gate_dst (N := 4) rfl ?_); refine box_event ?hg (N := 4) ?hd (cs := #[.int .i64 0, .int .i64 0, .int .i64 0, .int .i64 0, .int .i64 0, .int .i64 0, .bool false, .bool false, .slice none 0 0]) (t := 37) ?hr ?_; (case hd => rfl); (case hg => rfl); (case hr => first | (go_simp; done) | (go_simp; rfl)); intro gb21960 hg w21961 hbox hb; have n0_ := mk_ (blk_below (u_ BK167.out) hb); have n1_ := mk_ (below_step (us_ HB.out) hb); have BK168 := mk_ (hbox); have GW168 := mk_ ((by rw [hg]; exact (below_size (us_ HB.out)) : w.heap.size ≤ gb21960)); have GE168 := ge_ ((by rw [hg]; exact (below_size (us_ HB.out)) : w.heap.size ≤ gb21960)); have NB167_168 := nq_ ((by rw [hg]; exact Nat.ne_of_lt (blk_lt (u_ BK167.out)) : gb21920 ≠ gb21960)); have NB168_167 := nq_ ((by rw [hg]; exact Nat.ne_of_gt (blk_lt (u_ BK167.out)) : gb21960 ≠ gb21920)); replace BK167 := n0_; replace HB := n1_; clear n0_ n1_; clear hb hbox hg; have hnb5240167168 := NB167_168.out; have hnc5240167168 := NB168_167.out; obtain ⟨hcz5240167_0, hcz5240167_1, hcz5240167_2, hcz5240167_3, hcz5240167_4, hcz5240167_5, hcz5240167_6, hcz5240167_7, hcz5240167_8, hfz5240167_0, hfz5240167_1, hfz5240167_2, hfz5240167_3, hfz5240167_4, hfz5240167_5, hfz5240167_6, hfz5240167_7, hfz5240167_8⟩ := cells9_ BK167.out) | ((with_reducible refine gate_callee (f := 19) rfl ?_); refine goesL_ (some 11) rfl rfl Try.func19 (by kernel_rfl) rfl #[.slice A0_8 l0_8.length c0_8] rfl (by (try simp only [lm_, lo_, ln_]); try rfl) ?_; (with_reducible refine (impl_NoteFrom.calls k _ _ l0_8 t169 t170 t171 false _ ?side1 ?side2 A3.out).mono ?_); (case side1 => repeat (first | exact (Kd.C_below HR0_8.out HB.out) | (with_reducible refine Kd.C_alloc ?_ _) | (with_reducible refine Kd.C_drewN ?_ _) | (with_reducible refine Kd.C_drew ?_))); (case side2 => exact HC0_8.out); rintro e w22000 ⟨v22001, rfl, ho22002, hb⟩; refine ⟨_, rfl, ?_⟩; have HO173 := mk_ (Kd.R_lower ho22002 (below_size (us_ HB.out))); replace BK167 := mk_ (blk_below (u_ BK167.out) hb); replace BK168 := mk_ (blk_below (u_ BK168.out) hb); replace HB := mk_ (below_step (us_ HB.out) hb)) | ((with_reducible refine gate_callee (f := 19) rfl ?_); refine goesL_ (some 11) rfl rfl Try.func19 (by kernel_rfl) rfl #[.slice A0_8 l0_8.length c0_8] rfl (by (try simp only [lm_, lo_, ln_]); try rfl) ?_; (with_reducible refine (impl_NoteFrom.calls k _ _ l0_8 t169 t170 t171 true _ ?side1 ?side2 A3.out).mono ?_); (case side1 => repeat (first | exact (Kd.C_below HR0_8.out HB.out) | (with_reducible refine Kd.C_alloc ?_ _) | (with_reducible refine Kd.C_drewN ?_ _) | (with_reducible refine Kd.C_drew ?_))); (case side2 => exact HC0_8.out); rintro e w22000 ⟨v22001, rfl, ho22002, hb⟩; refine ⟨_, rfl, ?_⟩; have HO173 := mk_ (Kd.R_lower ho22002 (below_size (us_ HB.out))); replace BK167 := mk_ (blk_below (u_ BK167.out) hb); replace BK168 := mk_ (blk_below (u_ BK168.out) hb); replace HB := mk_ (below_step (us_ HB.out) hb)) | ((with_reducible refine gate_dst (N := 6) rfl ?_); refine box_event ?hg (N := 6) ?hd (cs := #[.int .i64 0, .int .i64 0, .slice none 0 0]) (t := 44) ?hr ?_; (case hd => rfl); (case hg => rfl); (case hr => first | (go_simp; done) | (go_simp; rfl)); intro gb22040 hg w22041 hbox hb; replace HO173 := mk_ (Kd.R_below (Kd.ur_ HO173.out) hb); have n1_ := mk_ (blk_below (u_ BK167.out) hb); have n2_ := mk_ (blk_below (u_ BK168.out) hb); have n3_ := mk_ (below_step (us_ HB.out) hb); have BK175 := mk_ (hbox); have GW175 := mk_ ((by rw [hg]; exact (below_size (us_ HB.out)) : w.heap.size ≤ gb22040)); have GE175 := ge_ ((by rw [hg]; exact (below_size (us_ HB.out)) : w.heap.size ≤ gb22040)); have NB167_175 := nq_ ((by rw [hg]; exact Nat.ne_of_lt (blk_lt (u_ BK167.out)) : gb21920 ≠ gb22040)); have NB175_167 := nq_ ((by rw [hg]; exact Nat.ne_of_gt (blk_lt (u_ BK167.out)) : gb22040 ≠ gb21920)); have NB168_175 := nq_ ((by rw [hg]; exact Nat.ne_of_lt (blk_lt (u_ BK168.out)) : gb21960 ≠ gb22040)); have NB175_168 := nq_ ((by rw [hg]; exact Nat.ne_of_gt (blk_lt (u_ BK168.out)) : gb22040 ≠ gb21960)); replace BK167 := n1_; replace BK168 := n2_; replace HB := n3_; clear n1_ n2_ n3_; clear hb hbox hg; have hnb5260167175 := NB175_167.out; have hnc5260167175 := NB167_175.out; have hnb5260168175 := NB175_168.out; have hnc5260168175 := NB168_175.out; obtain ⟨hcz5260175_0, hcz5260175_1, hcz5260175_2, hfz5260175_0, hfz5260175_1, hfz5260175_2⟩ := cells3_ BK175.out; obtain ⟨Ao5260173, co5260173, eo5260173⟩ := Kd.R_slice HO173.out; subst eo5260173; obtain ⟨hcz5260167_0, hcz5260167_1, hcz5260167_2, hcz5260167_3, hcz5260167_4, hcz5260167_5, hcz5260167_6, hcz5260167_7, hcz5260167_8, hfz5260167_0, hfz5260167_1, hfz5260167_2, hfz5260167_3, hfz5260167_4, hfz5260167_5, hfz5260167_6, hfz5260167_7, hfz5260167_8⟩ := cells9_ BK167.out; obtain ⟨_, _, _, _, _, _, _, _, _, _, _, _, _, _, _, _, _, _⟩ := cells9_ BK168.out; obtain ⟨_, _, _, _, _, _, _, _, _, _, _, _, _, _, _, _, _, _⟩ := cells9_ BK167.out) | (have zz_ := z36_; clear zz_; (with_reducible refine gate_store (t := 37) (p := 4) rfl ?_); refine store_event (t := 37) (p := 4) (v := ?_) (w1 := ?_) ?hg ?ho ?hn ?hr ?_; (case ho => rfl); (case hg => rfl); (case hn => rfl); (case hr => first | (go_simp; done) | (go_simp; rfl)); intro w22080 hw; have n0_ : Aside0 (Kd.R (Kd.int .u8) 5 w22080 w.heap.size (fun _ => True) (.slice Ao5260173 t171.length co5260173) t171) := ⟨(by rw [hw]; exact (by (with_reducible repeat (first | apply Kd.R_alloc | apply Kd.R_drewN | apply Kd.R_drew)); exact Kd.R_mono (Kd.R_far9 (g := gb21960) (Kd.R_far (p := ⟨gb22040, 2, none⟩) (Kd.R_far (p := ⟨gb22040, 1, none⟩) (Kd.R_far (p := ⟨gb22040, 0, none⟩) (Kd.R_types (Kd.R_types HO173.out BK175.out (by decide)) BK168.out (by decide)) (fun _ hk => hk.1.2) (.int .i64 t169)) (fun _ hk => hk.1.2) (.int .i64 t170)) (fun _ hk => hk.1.2) (.slice Ao5260173 t171.length co5260173)) (fun _ hk => hk.2) _ _ _ _ _ _ _ _ _) (fun _ hk => trivial)))⟩; have n1_ : Aside0 (w22080.heap[gb21920]? = some (.cells #[.int .i64 a0_0, .int .i64 a0_1, .int .i64 a0_2, .int .i64 a0_3, .int .i64 a0_4, .int .i64 a0_5, .bool a0_6, .bool a0_7, .slice A0_8 l0_8.length c0_8] 37 (0, 0))) := ⟨(by rw [hw]; exact (uf_ BK167.out))⟩; have n2_ : Aside0 (w22080.heap[gb21960]? = some (.cells #[.int .i64 0, .int .i64 0, .int .i64 0, .int .i64 0, .int .i64 0, .int .i64 0, .bool false, .bool false, .slice none 0 0] 37 (0, 0))) := ⟨(by rw [hw]; exact (by (with_reducible repeat (first | refine bn_ ?_ _ | refine bw_ ?_ | refine ba_ ?_ _)); with_reducible apply blk_put9; (with_reducible repeat (first | refine bn_ ?_ _ | refine bw_ ?_ | refine ba_ ?_ _)); refine blk_far ?_ NB168_175.out _; (with_reducible repeat (first | refine bn_ ?_ _ | refine bw_ ?_ | refine ba_ ?_ _)); refine blk_far ?_ NB168_175.out _; (with_reducible repeat (first | refine bn_ ?_ _ | refine bw_ ?_ | refine ba_ ?_ _)); refine blk_far ?_ NB168_175.out _; (with_reducible repeat (first | refine bn_ ?_ _ | refine bw_ ?_ | refine ba_ ?_ _)); exact BK168.out))⟩; have n3_ : Aside0 (w22080.heap[gb22040]? = some (.cells #[.int .i64 t169, .int .i64 t170, .slice Ao5260173 t171.length co5260173] 44 (0, 0))) := ⟨(by rw [hw]; exact (by (with_reducible repeat (first | refine bn_ ?_ _ | refine bw_ ?_ | refine ba_ ?_ _)); refine blk_far ?_ NB175_168.out _; (with_reducible repeat (first | refine bn_ ?_ _ | refine bw_ ?_ | refine ba_ ?_ _)); refine blk_far ?_ NB175_168.out _; (with_reducible repeat (first | refine bn_ ?_ _ | refine bw_ ?_ | refine ba_ ?_ _)); refine blk_far ?_ NB175_168.out _; (with_reducible repeat (first | refine bn_ ?_ _ | refine bw_ ?_ | refine ba_ ?_ _)); refine blk_far ?_ NB175_168.out _; (with_reducible repeat (first | refine bn_ ?_ _ | refine bw_ ?_ | refine ba_ ?_ _)); refine blk_far ?_ NB175_168.out _; (with_reducible repeat (first | refine bn_ ?_ _ | refine bw_ ?_ | refine ba_ ?_ _)); refine blk_far ?_ NB175_168.out _; (with_reducible repeat (first | refine bn_ ?_ _ | refine bw_ ?_ | refine ba_ ?_ _)); refine blk_far ?_ NB175_168.out _; (with_reducible repeat (first | refine bn_ ?_ _ | refine bw_ ?_ | refine ba_ ?_ _)); refine blk_far ?_ NB175_168.out _; (with_reducible repeat (first | refine bn_ ?_ _ | refine bw_ ?_ | refine ba_ ?_ _)); refine blk_far ?_ NB175_168.out _; (with_reducible repeat (first | refine bn_ ?_ _ | refine bw_ ?_ | refine ba_ ?_ _)); refine blk_put (cs := #[.int .i64 t169, .int .i64 t170, .slice none 0 0]) ?_ 2 _ rfl; (with_reducible repeat (first | refine bn_ ?_ _ | refine bw_ ?_ | refine ba_ ?_ _)); refine blk_put (cs := #[.int .i64 t169, .int .i64 0, .slice none 0 0]) ?_ 1 _ rfl; (with_reducible repeat (first | refine bn_ ?_ _ | refine bw_ ?_ | refine ba_ ?_ _)); refine blk_put (cs := #[.int .i64 0, .int .i64 0, .slice none 0 0]) ?_ 0 _ rfl; (with_reducible repeat (first | refine bn_ ?_ _ | refine bw_ ?_ | refine ba_ ?_ _)); exact BK175.out))⟩; have n4_ : Aside0 (Below w.heap.size w w22080) := ⟨(by rw [hw]; exact (us_ HB.out))⟩; clear hw; clear HO173; clear BK167; clear BK168; clear BK175; clear HB; have HO173 := n0_; have BK167 := n1_; have BK168 := n2_; have BK175 := n3_; have HB := n4_; clear n0_ n1_ n2_ n3_ n4_) | (have zz_ := z37_; clear zz_; (with_reducible refine gate_store (t := 37) (p := 4) rfl ?_); refine store_event (t := 37) (p := 4) (v := ?_) (w1 := ?_) ?hg ?ho ?hn ?hr ?_; (case ho => rfl); (case hg => rfl); (case hn => rfl); (case hr => first | (go_simp; done) | (go_simp; rfl)); intro w22080 hw; have n0_ : Aside0 (Kd.R (Kd.int .u8) 5 w22080 w.heap.size (fun _ => True) (.slice Ao5260173 t171.length co5260173) t171) := ⟨(by rw [hw]; exact (by (with_reducible repeat (first | apply Kd.R_alloc | apply Kd.R_drewN | apply Kd.R_drew)); exact Kd.R_mono (Kd.R_far9 (g := gb21960) (Kd.R_types HO173.out BK168.out (by decide)) (fun _ hk => hk.2) _ _ _ _ _ _ _ _ _) (fun _ hk => trivial)))⟩; have n1_ : Aside0 (w22080.heap[gb21920]? = some (.cells #[.int .i64 a0_0, .int .i64 a0_1, .int .i64 a0_2, .int .i64 a0_3, .int .i64 a0_4, .int .i64 a0_5, .bool a0_6, .bool a0_7, .slice A0_8 l0_8.length c0_8] 37 (0, 0))) := ⟨(by rw [hw]; exact (uf_ BK167.out))⟩; have n2_ : Aside0 (w22080.heap[gb21960]? = some (.cells #[.int .i64 0, .int .i64 0, .int .i64 0, .int .i64 0, .int .i64 0, .int .i64 0, .bool false, .bool false, .slice none 0 0] 37 (0, 0))) := ⟨(by rw [hw]; exact (by (with_reducible repeat (first | refine bn_ ?_ _ | refine bw_ ?_ | refine ba_ ?_ _)); with_reducible apply blk_put9; (with_reducible repeat (first | refine bn_ ?_ _ | refine bw_ ?_ | refine ba_ ?_ _)); exact BK168.out))⟩; have n3_ : Aside0 (w22080.heap[gb22040]? = some (.cells #[.int .i64 t169, .int .i64 t170, .slice Ao5260173 t171.length co5260173] 44 (0, 0))) := ⟨(by rw [hw]; exact (uf_ BK175.out))⟩; have n4_ : Aside0 (Below w.heap.size w w22080) := ⟨(by rw [hw]; exact (us_ HB.out))⟩; clear hw; clear HO173; clear BK167; clear BK168; clear BK175; clear HB; have HO173 := n0_; have BK167 := n1_; have BK168 := n2_; have BK175 := n3_; have HB := n4_; clear n0_ n1_ n2_ n3_ n4_) | (have zz_ := z38_; clear zz_; (with_reducible refine gate_store (t := 37) (p := 4) rfl ?_); refine store_event (t := 37) (p := 4) (v := ?_) (w1 := ?_) ?hg ?ho ?hn ?hr ?_; (case ho => rfl); (case hg => rfl); (case hn => rfl); (case hr => first | (go_simp; done) | (go_simp; rfl)); intro w22080 hw; have n0_ : Aside0 (Kd.R (Kd.int .u8) 5 w22080 w.heap.size (fun _ => True) (.slice Ao5260173 t171.length co5260173) t171) := ⟨(by rw [hw]; exact (by (with_reducible repeat (first | apply Kd.R_alloc | apply Kd.R_drewN | apply Kd.R_drew)); exact Kd.R_mono (Kd.R_far9 (g := gb21960) (Kd.R_types HO173.out BK168.out (by decide)) (fun _ hk => hk.2) _ _ _ _ _ _ _ _ _) (fun _ hk => trivial)))⟩; have n1_ : Aside0 (w22080.heap[gb21920]? = some (.cells #[.int .i64 a0_0, .int .i64 a0_1, .int .i64 a0_2, .int .i64 a0_3, .int .i64 a0_4, .int .i64 a0_5, .bool true, .bool a0_7, .slice A0_8 l0_8.length c0_8] 37 (0, 0))) := ⟨(by rw [hw]; exact (uf_ BK167.out))⟩; have n2_ : Aside0 (w22080.heap[gb21960]? = some (.cells #[.int .i64 0, .int .i64 0, .int .i64 0, .int .i64 0, .int .i64 0, .int .i64 0, .bool false, .bool false, .slice none 0 0] 37 (0, 0))) := ⟨(by rw [hw]; exact (by (with_reducible repeat (first | refine bn_ ?_ _ | refine bw_ ?_ | refine ba_ ?_ _)); with_reducible apply blk_put9; (with_reducible repeat (first | refine bn_ ?_ _ | refine bw_ ?_ | refine ba_ ?_ _)); exact BK168.out))⟩; have n3_ : Aside0 (w22080.heap[gb22040]? = some (.cells #[.int .i64 t169, .int .i64 t170, .slice Ao5260173 t171.length co5260173] 44 (0, 0))) := ⟨(by rw [hw]; exact (uf_ BK175.out))⟩; have n4_ : Aside0 (Below w.heap.size w w22080) := ⟨(by rw [hw]; exact (us_ HB.out))⟩; clear hw; clear HO173; clear BK167; clear BK168; clear BK175; clear HB; have HO173 := n0_; have BK167 := n1_; have BK168 := n2_; have BK175 := n3_; have HB := n4_; clear n0_ n1_ n2_ n3_ n4_) | (have zz_ := z39_; clear zz_; (with_reducible refine gate_store (t := 37) (p := 4) rfl ?_); refine store_event (t := 37) (p := 4) (v := ?_) (w1 := ?_) ?hg ?ho ?hn ?hr ?_; (case ho => rfl); (case hg => rfl); (case hn => rfl); (case hr => first | (go_simp; done) | (go_simp; rfl)); intro w22080 hw; have n0_ : Aside0 (Kd.R (Kd.int .u8) 5 w22080 w.heap.size (fun _ => True) (.slice Ao5260173 t171.length co5260173) t171) := ⟨(by rw [hw]; exact (by (with_reducible repeat (first | apply Kd.R_alloc | apply Kd.R_drewN | apply Kd.R_drew)); exact Kd.R_mono (Kd.R_far9 (g := gb21960) (Kd.R_types HO173.out BK168.out (by decide)) (fun _ hk => hk.2) _ _ _ _ _ _ _ _ _) (fun _ hk => trivial)))⟩; have n1_ : Aside0 (w22080.heap[gb21920]? = some (.cells #[.int .i64 a0_0, .int .i64 a0_1, .int .i64 a0_2, .int .i64 a0_3, .int .i64 a0_4, .int .i64 a0_5, .bool false, .bool a0_7, .slice A0_8 l0_8.length c0_8] 37 (0, 0))) := ⟨(by rw [hw]; exact (uf_ BK167.out))⟩; have n2_ : Aside0 (w22080.heap[gb21960]? = some (.cells #[.int .i64 0, .int .i64 0, .int .i64 0, .int .i64 0, .int .i64 0, .int .i64 0, .bool false, .bool false, .slice none 0 0] 37 (0, 0))) := ⟨(by rw [hw]; exact (by (with_reducible repeat (first | refine bn_ ?_ _ | refine bw_ ?_ | refine ba_ ?_ _)); with_reducible apply blk_put9; (with_reducible repeat (first | refine bn_ ?_ _ | refine bw_ ?_ | refine ba_ ?_ _)); exact BK168.out))⟩; have n3_ : Aside0 (w22080.heap[gb22040]? = some (.cells #[.int .i64 t169, .int .i64 t170, .slice Ao5260173 t171.length co5260173] 44 (0, 0))) := ⟨(by rw [hw]; exact (uf_ BK175.out))⟩; have n4_ : Aside0 (Below w.heap.size w w22080) := ⟨(by rw [hw]; exact (us_ HB.out))⟩; clear hw; clear HO173; clear BK167; clear BK168; clear BK175; clear HB; have HO173 := n0_; have BK167 := n1_; have BK168 := n2_; have BK175 := n3_; have HB := n4_; clear n0_ n1_ n2_ n3_ n4_) | (have zz_ := z40_; clear zz_; (with_reducible refine gate_store (t := 37) (p := 4) rfl ?_); refine store_event (t := 37) (p := 4) (v := ?_) (w1 := ?_) ?hg ?ho ?hn ?hr ?_; (case ho => rfl); (case hg => rfl); (case hn => rfl); (case hr => first | (go_simp; done) | (go_simp; rfl)); intro w22080 hw; have n0_ : Aside0 (Kd.R (Kd.int .u8) 5 w22080 w.heap.size (fun k_ => some k_ ≠ (.slice Ao5320187 t185.length co5320187 : Value).ownBlock) (.slice Ao5260173 t171.length co5260173) t171) := ⟨(by rw [hw]; exact (by (with_reducible repeat (first | apply Kd.R_alloc | apply Kd.R_drewN | apply Kd.R_drew)); exact Kd.R_mono (Kd.R_far9 (g := gb21960) (Kd.R_types HO173.out BK168.out (by decide)) (fun _ hk => hk.2) _ _ _ _ _ _ _ _ _) (fun _ hk => hk.1.2)))⟩; have n1_ : Aside0 (Kd.R (Kd.int .u8) 5 w22080 w.heap.size (fun k_ => some k_ ≠ (.slice Ao5260173 t171.length co5260173 : Value).ownBlock) (.slice Ao5320187 t185.length co5320187) t185) := ⟨(by rw [hw]; exact (by (with_reducible repeat (first | apply Kd.R_alloc | apply Kd.R_drewN | apply Kd.R_drew)); exact Kd.R_mono (Kd.R_far9 (g := gb21960) (Kd.R_types HO187.out BK168.out (by decide)) (fun _ hk => hk.2) _ _ _ _ _ _ _ _ _) (fun _ hk => hk.1.2)))⟩; have n2_ : Aside0 (w22080.heap[gb21920]? = some (.cells #[.int .i64 a0_0, .int .i64 a0_1, .int .i64 a0_2, .int .i64 a0_3, .int .i64 a0_4, .int .i64 a0_5, .bool false, .bool a0_7, .slice A0_8 l0_8.length c0_8] 37 (0, 0))) := ⟨(by rw [hw]; exact (uf_ BK167.out))⟩; have n3_ : Aside0 (w22080.heap[gb21960]? = some (.cells #[.int .i64 t177, .int .i64 t178, .int .i64 t179, .int .i64 t180, .int .i64 t181, .int .i64 t182, .bool t183, .bool t184, .slice Ao5320187 t185.length co5320187] 37 (0, 0))) := ⟨(by rw [hw]; exact (by (with_reducible repeat (first | refine bn_ ?_ _ | refine bw_ ?_ | refine ba_ ?_ _)); with_reducible apply blk_put9; (with_reducible repeat (first | refine bn_ ?_ _ | refine bw_ ?_ | refine ba_ ?_ _)); exact BK168.out))⟩; have n4_ : Aside0 (w22080.heap[gb22040]? = some (.cells #[.int .i64 t169, .int .i64 t170, .slice Ao5260173 t171.length co5260173] 44 (0, 0))) := ⟨(by rw [hw]; exact (uf_ BK175.out))⟩; have n5_ : Aside0 (Below w.heap.size w w22080) := ⟨(by rw [hw]; exact (us_ HB.out))⟩; clear hw; clear HO173; clear HO187; clear BK167; clear BK168; clear BK175; clear HB; have HO173 := n0_; have HO187 := n1_; have BK167 := n2_; have BK168 := n3_; have BK175 := n4_; have HB := n5_; clear n0_ n1_ n2_ n3_ n4_ n5_) | (go_at_call 20; (with_reducible refine (impl_PacketOk.calls a0_0 a0_1 a0_2 a0_3 a0_4 a0_5 a0_6 a0_7 _ _ l0_8 false _ ?side1 ?side2 A5.out).mono ?_); (case side1 => exact Kd.C_below HR0_8.out (us_ HB.out)); (case side2 => exact HC0_8.out); rintro e w22120 ⟨rfl, hb⟩; replace HO173 := mk_ (Kd.R_below (by (with_reducible repeat (first | apply Kd.R_alloc | apply Kd.R_drewN | apply Kd.R_drew)); exact (Kd.R_mono (Kd.R_far (p := ⟨gb22040, 2, none⟩) (Kd.R_far (p := ⟨gb22040, 1, none⟩) (Kd.R_far (p := ⟨gb22040, 0, none⟩) (Kd.R_types HO173.out BK175.out (by decide)) (fun _ hk => hk.2) (.int .i64 t169)) (fun _ hk => hk.2) (.int .i64 t170)) (fun _ hk => hk.2) (.slice Ao5260173 t171.length co5260173)) (fun _ h_ => by first | exact h_.1 | simp only [h_, ne_eq, not_false_eq_true, and_self]))) hb); replace BK167 := mk_ (blk_below (g := gb21920) (o := .cells #[.int .i64 a0_0, .int .i64 a0_1, .int .i64 a0_2, .int .i64 a0_3, .int .i64 a0_4, .int .i64 a0_5, .bool a0_6, .bool a0_7, .slice A0_8 l0_8.length c0_8] 37 (0, 0)) (uf_ BK167.out) hb); replace BK168 := mk_ (blk_below (g := gb21960) (o := .cells #[.int .i64 0, .int .i64 0, .int .i64 0, .int .i64 0, .int .i64 0, .int .i64 0, .bool false, .bool false, .slice none 0 0] 37 (0, 0)) (uf_ BK168.out) hb); replace BK175 := mk_ (blk_below (g := gb22040) (o := .cells #[.int .i64 t169, .int .i64 t170, .slice Ao5260173 t171.length co5260173] 44 (0, 0)) (by (with_reducible repeat (first | refine bn_ ?_ _ | refine bw_ ?_ | refine ba_ ?_ _)); refine blk_put (cs := #[.int .i64 t169, .int .i64 t170, .slice none 0 0]) ?_ 2 _ rfl; (with_reducible repeat (first | refine bn_ ?_ _ | refine bw_ ?_ | refine ba_ ?_ _)); refine blk_put (cs := #[.int .i64 t169, .int .i64 0, .slice none 0 0]) ?_ 1 _ rfl; (with_reducible repeat (first | refine bn_ ?_ _ | refine bw_ ?_ | refine ba_ ?_ _)); refine blk_put (cs := #[.int .i64 0, .int .i64 0, .slice none 0 0]) ?_ 0 _ rfl; (with_reducible repeat (first | refine bn_ ?_ _ | refine bw_ ?_ | refine ba_ ?_ _)); exact BK175.out) hb); replace HB := mk_ (below_step (us_ HB.out) hb); obtain ⟨_, _, _, _, _, _, _, _, _, _, _, _, _, _, _, _, _, _⟩ := cells9_ BK168.out) | (go_at_call 20; (with_reducible refine (impl_PacketOk.calls a0_0 a0_1 a0_2 a0_3 a0_4 a0_5 a0_6 a0_7 _ _ l0_8 true _ ?side1 ?side2 A5.out).mono ?_); (case side1 => exact Kd.C_below HR0_8.out (us_ HB.out)); (case side2 => exact HC0_8.out); rintro e w22160 ⟨rfl, hb⟩; replace HO173 := mk_ (Kd.R_below (by (with_reducible repeat (first | apply Kd.R_alloc | apply Kd.R_drewN | apply Kd.R_drew)); exact (Kd.R_mono (Kd.R_far (p := ⟨gb22040, 2, none⟩) (Kd.R_far (p := ⟨gb22040, 1, none⟩) (Kd.R_far (p := ⟨gb22040, 0, none⟩) (Kd.R_types HO173.out BK175.out (by decide)) (fun _ hk => hk.2) (.int .i64 t169)) (fun _ hk => hk.2) (.int .i64 t170)) (fun _ hk => hk.2) (.slice Ao5260173 t171.length co5260173)) (fun _ h_ => by first | exact h_.1 | simp only [h_, ne_eq, not_false_eq_true, and_self]))) hb); replace BK167 := mk_ (blk_below (g := gb21920) (o := .cells #[.int .i64 a0_0, .int .i64 a0_1, .int .i64 a0_2, .int .i64 a0_3, .int .i64 a0_4, .int .i64 a0_5, .bool a0_6, .bool a0_7, .slice A0_8 l0_8.length c0_8] 37 (0, 0)) (uf_ BK167.out) hb); replace BK168 := mk_ (blk_below (g := gb21960) (o := .cells #[.int .i64 0, .int .i64 0, .int .i64 0, .int .i64 0, .int .i64 0, .int .i64 0, .bool false, .bool false, .slice none 0 0] 37 (0, 0)) (uf_ BK168.out) hb); replace BK175 := mk_ (blk_below (g := gb22040) (o := .cells #[.int .i64 t169, .int .i64 t170, .slice Ao5260173 t171.length co5260173] 44 (0, 0)) (by (with_reducible repeat (first | refine bn_ ?_ _ | refine bw_ ?_ | refine ba_ ?_ _)); refine blk_put (cs := #[.int .i64 t169, .int .i64 t170, .slice none 0 0]) ?_ 2 _ rfl; (with_reducible repeat (first | refine bn_ ?_ _ | refine bw_ ?_ | refine ba_ ?_ _)); refine blk_put (cs := #[.int .i64 t169, .int .i64 0, .slice none 0 0]) ?_ 1 _ rfl; (with_reducible repeat (first | refine bn_ ?_ _ | refine bw_ ?_ | refine ba_ ?_ _)); refine blk_put (cs := #[.int .i64 0, .int .i64 0, .slice none 0 0]) ?_ 0 _ rfl; (with_reducible repeat (first | refine bn_ ?_ _ | refine bw_ ?_ | refine ba_ ?_ _)); exact BK175.out) hb); replace HB := mk_ (below_step (us_ HB.out) hb); obtain ⟨_, _, _, _, _, _, _, _, _, _, _, _, _, _, _, _, _, _⟩ := cells9_ BK167.out; obtain ⟨_, _, _, _, _, _, _, _, _, _, _, _, _, _, _, _, _, _⟩ := cells9_ BK168.out) | (go_at_call 20; (with_reducible refine (impl_PacketOk.calls a0_0 a0_1 a0_2 a0_3 a0_4 a0_5 true a0_7 _ _ l0_8 true _ ?side1 ?side2 A5.out).mono ?_); (case side1 => exact Kd.C_below HR0_8.out (us_ HB.out)); (case side2 => exact HC0_8.out); rintro e w22200 ⟨rfl, hb⟩; replace HO173 := mk_ (Kd.R_below (by (with_reducible repeat (first | apply Kd.R_alloc | apply Kd.R_drewN | apply Kd.R_drew)); exact (Kd.R_mono (Kd.R_far (p := ⟨gb22040, 2, none⟩) (Kd.R_far (p := ⟨gb22040, 1, none⟩) (Kd.R_far (p := ⟨gb22040, 0, none⟩) (Kd.R_types HO173.out BK175.out (by decide)) (fun _ hk => hk.2) (.int .i64 t169)) (fun _ hk => hk.2) (.int .i64 t170)) (fun _ hk => hk.2) (.slice Ao5260173 t171.length co5260173)) (fun _ h_ => by first | exact h_.1 | simp only [h_, ne_eq, not_false_eq_true, and_self]))) hb); replace BK167 := mk_ (blk_below (g := gb21920) (o := .cells #[.int .i64 a0_0, .int .i64 a0_1, .int .i64 a0_2, .int .i64 a0_3, .int .i64 a0_4, .int .i64 a0_5, .bool true, .bool a0_7, .slice A0_8 l0_8.length c0_8] 37 (0, 0)) (uf_ BK167.out) hb); replace BK168 := mk_ (blk_below (g := gb21960) (o := .cells #[.int .i64 0, .int .i64 0, .int .i64 0, .int .i64 0, .int .i64 0, .int .i64 0, .bool false, .bool false, .slice none 0 0] 37 (0, 0)) (uf_ BK168.out) hb); replace BK175 := mk_ (blk_below (g := gb22040) (o := .cells #[.int .i64 t169, .int .i64 t170, .slice Ao5260173 t171.length co5260173] 44 (0, 0)) (by (with_reducible repeat (first | refine bn_ ?_ _ | refine bw_ ?_ | refine ba_ ?_ _)); refine blk_put (cs := #[.int .i64 t169, .int .i64 t170, .slice none 0 0]) ?_ 2 _ rfl; (with_reducible repeat (first | refine bn_ ?_ _ | refine bw_ ?_ | refine ba_ ?_ _)); refine blk_put (cs := #[.int .i64 t169, .int .i64 0, .slice none 0 0]) ?_ 1 _ rfl; (with_reducible repeat (first | refine bn_ ?_ _ | refine bw_ ?_ | refine ba_ ?_ _)); refine blk_put (cs := #[.int .i64 0, .int .i64 0, .slice none 0 0]) ?_ 0 _ rfl; (with_reducible repeat (first | refine bn_ ?_ _ | refine bw_ ?_ | refine ba_ ?_ _)); exact BK175.out) hb); replace HB := mk_ (below_step (us_ HB.out) hb); obtain ⟨hcz5300167_0, hcz5300167_1, hcz5300167_2, hcz5300167_3, hcz5300167_4, hcz5300167_5, hcz5300167_6, hcz5300167_7, hcz5300167_8, hfz5300167_0, hfz5300167_1, hfz5300167_2, hfz5300167_3, hfz5300167_4, hfz5300167_5, hfz5300167_6, hfz5300167_7, hfz5300167_8⟩ := cells9_ BK167.out; obtain ⟨_, _, _, _, _, _, _, _, _, _, _, _, _, _, _, _, _, _⟩ := cells9_ BK168.out) | (go_at_call 20; (with_reducible refine (impl_PacketOk.calls a0_0 a0_1 a0_2 a0_3 a0_4 a0_5 false a0_7 _ _ l0_8 true _ ?side1 ?side2 A5.out).mono ?_); (case side1 => exact Kd.C_below HR0_8.out (us_ HB.out)); (case side2 => exact HC0_8.out); rintro e w22240 ⟨rfl, hb⟩; replace HO173 := mk_ (Kd.R_below (by (with_reducible repeat (first | apply Kd.R_alloc | apply Kd.R_drewN | apply Kd.R_drew)); exact (Kd.R_mono (Kd.R_far (p := ⟨gb22040, 2, none⟩) (Kd.R_far (p := ⟨gb22040, 1, none⟩) (Kd.R_far (p := ⟨gb22040, 0, none⟩) (Kd.R_types HO173.out BK175.out (by decide)) (fun _ hk => hk.2) (.int .i64 t169)) (fun _ hk => hk.2) (.int .i64 t170)) (fun _ hk => hk.2) (.slice Ao5260173 t171.length co5260173)) (fun _ h_ => by first | exact h_.1 | simp only [h_, ne_eq, not_false_eq_true, and_self]))) hb); replace BK167 := mk_ (blk_below (g := gb21920) (o := .cells #[.int .i64 a0_0, .int .i64 a0_1, .int .i64 a0_2, .int .i64 a0_3, .int .i64 a0_4, .int .i64 a0_5, .bool false, .bool a0_7, .slice A0_8 l0_8.length c0_8] 37 (0, 0)) (uf_ BK167.out) hb); replace BK168 := mk_ (blk_below (g := gb21960) (o := .cells #[.int .i64 0, .int .i64 0, .int .i64 0, .int .i64 0, .int .i64 0, .int .i64 0, .bool false, .bool false, .slice none 0 0] 37 (0, 0)) (uf_ BK168.out) hb); replace BK175 := mk_ (blk_below (g := gb22040) (o := .cells #[.int .i64 t169, .int .i64 t170, .slice Ao5260173 t171.length co5260173] 44 (0, 0)) (by (with_reducible repeat (first | refine bn_ ?_ _ | refine bw_ ?_ | refine ba_ ?_ _)); refine blk_put (cs := #[.int .i64 t169, .int .i64 t170, .slice none 0 0]) ?_ 2 _ rfl; (with_reducible repeat (first | refine bn_ ?_ _ | refine bw_ ?_ | refine ba_ ?_ _)); refine blk_put (cs := #[.int .i64 t169, .int .i64 0, .slice none 0 0]) ?_ 1 _ rfl; (with_reducible repeat (first | refine bn_ ?_ _ | refine bw_ ?_ | refine ba_ ?_ _)); refine blk_put (cs := #[.int .i64 0, .int .i64 0, .slice none 0 0]) ?_ 0 _ rfl; (with_reducible repeat (first | refine bn_ ?_ _ | refine bw_ ?_ | refine ba_ ?_ _)); exact BK175.out) hb); replace HB := mk_ (below_step (us_ HB.out) hb); obtain ⟨hcz5310167_0, hcz5310167_1, hcz5310167_2, hcz5310167_3, hcz5310167_4, hcz5310167_5, hcz5310167_6, hcz5310167_7, hcz5310167_8, hfz5310167_0, hfz5310167_1, hfz5310167_2, hfz5310167_3, hfz5310167_4, hfz5310167_5, hfz5310167_6, hfz5310167_7, hfz5310167_8⟩ := cells9_ BK167.out; obtain ⟨hcz5310175_0, hcz5310175_1, hcz5310175_2, hfz5310175_0, hfz5310175_1, hfz5310175_2⟩ := cells3_ BK175.out; obtain ⟨_, _, _, _, _, _, _, _, _, _, _, _, _, _, _, _, _, _⟩ := cells9_ BK168.out; obtain ⟨_, _, _, _, _, _⟩ := cells3_ BK175.out; obtain ⟨_, _, _, _, _, _, _, _, _, _, _, _, _, _, _, _, _, _⟩ := cells9_ BK168.out) | ((with_reducible refine gate_callee (f := 58) rfl ?_); refine goesL_ (some 54) rfl rfl Try.func58 (by kernel_rfl) rfl #[.int .i64 a1, .agg #[.int .i64 a0_0, .int .i64 a0_1, .int .i64 a0_2, .int .i64 a0_3, .int .i64 a0_4, .int .i64 a0_5, .bool false, .bool a0_7, .slice A0_8 l0_8.length c0_8], .agg #[.int .i64 2, .int .i64 t170, .slice Ao5260173 t171.length co5260173]] rfl (by (try simp only [lm_, lo_, ln_]); try rfl) ?_; (with_reducible refine (impl_noted.calls k a1 a0_0 a0_1 a0_2 a0_3 a0_4 a0_5 false a0_7 _ _ l0_8 2 t170 _ _ t171 t177 t178 t179 t180 t181 t182 t183 t184 t185 _ ?side1 ?side2 ?side3 ?side4 A27.out).mono ?_); (case side1 => repeat (first | exact (Kd.C_below HR0_8.out HB.out) | (with_reducible refine Kd.C_alloc ?_ _) | (with_reducible refine Kd.C_drewN ?_ _) | (with_reducible refine Kd.C_drew ?_))); (case side2 => exact HC0_8.out); (case side3 => repeat (first | exact (Kd.R_reads' HO173.out).2.2 | (with_reducible refine Kd.C_alloc ?_ _) | (with_reducible refine Kd.C_drewN ?_ _) | (with_reducible refine Kd.C_drew ?_))); (case side4 => exact (Kd.R_reads' HO173.out).2.1); rintro e w22280 ⟨v22281, rfl, ho22002, hb⟩; refine ⟨_, rfl, ?_⟩; have n0_ := mk_ (Kd.R_elder' (Kd.ur_ HO173.out) (Kd.R_base ho22002) hb); have HO187 := mk_ (Kd.R_lower (Kd.R_new' ho22002 (Kd.R_lt (Kd.ur_ HO173.out))) (below_size (us_ HB.out))); replace BK167 := mk_ (blk_below (u_ BK167.out) hb); replace BK168 := mk_ (blk_below (u_ BK168.out) hb); replace BK175 := mk_ (blk_below (u_ BK175.out) hb); replace HB := mk_ (below_step (us_ HB.out) hb); replace HO173 := n0_; clear n0_; obtain ⟨_, _, _, _, _, _, _, _, _, _, _, _, _, _, _, _, _, _⟩ := cells9_ BK168.out; obtain ⟨Ao5320187, co5320187, eo5320187⟩ := Kd.R_slice HO187.out; subst eo5320187))
 iterate 7
  focus
   refine bodyPost_ret (results_ct rfl _ _ gb21960 37 #[.int .i64 0, .int .i64 0, .int .i64 0, .int .i64 0, .int .i64 0, .int .i64 0, .bool false, .bool false, .slice none 0 0] (0, 0) _ rfl (u_ BK168.out) Try.underlying37 rfl (by kernel_rfl)) rfl ?_
   exact ⟨_, by first | rfl | (simp [errW_none, errW_some] <;> rfl) | (simp [*, errW_none, errW_some] <;> rfl), by first | exact Kd.R_nil _ _ _ _ _ | exact Kd.N_nil _ _ _ _ _ | exact Kd.V_nil _ _ _ _ _ | exact Kd.Q_nil _ _ _ _ _ | exact Kd.S_nil _ _ _ _ _, us_ HB.out⟩
 ·refine bodyPost_ret (results_ct rfl _ _ gb21960 37 #[.int .i64 t177, .int .i64 t178, .int .i64 t179, .int .i64 t180, .int .i64 t181, .int .i64 t182, .bool t183, .bool t184, .slice Ao5320187 t185.length co5320187] (0, 0) _ rfl (u_ BK168.out) Try.underlying37 rfl (by kernel_rfl)) rfl ?_
  exact ⟨_, by first | rfl | (simp [errW_none, errW_some] <;> rfl) | (simp [*, errW_none, errW_some] <;> rfl), by (with_reducible repeat (first | apply Kd.R_alloc | apply Kd.R_drewN | apply Kd.R_drew)); exact Kd.R_mono HO187.out (fun _ hk => trivial), us_ HB.out⟩

/-! ### laws_sameBytes: function 21 -/
def laws_sameBytes.f (l0 : List Int) (l1 : List Int) : Option (Bool) := some ((strOfNums l0).toList == (strOfNums l1).toList)
set_option maxHeartbeats 8000000 in
set_option maxRecDepth 100000 in
theorem laws_sameBytes.calls (A0 : Option Addr) (c0 : Nat) (l0 : List Int) (A1 : Option Addr) (c1 : Nat) (l1 : List Int) (r : Bool) (w : World) (hr0 : Kd.C (Kd.int .u8) w A0 l0.length l0) (hc0 : l0.length ≤ c0) (hr1 : Kd.C (Kd.int .u8) w A1 l1.length l1) (hc1 : l1.length ≤ c1) (h : laws_sameBytes.f l0 l1 = some r) :
  Calls Try.prog 21 #[.slice A0 l0.length c0, .slice A1 l1.length c1] w fun e w' => e = .returned (.bool r) ∧ Drawn0 w w' := by
 have HR0 := mk_ hr0
 have HC0 := mk_ hc0
 clear hr0 hc0
 have HR1 := mk_ hr1
 have HC1 := mk_ hc1
 clear hr1 hc1
 have H : (some ((strOfNums l0).toList == (strOfNums l1).toList)) = some r := h
 clear h
 obtain rfl := Option.some.inj H
 have hcv3 := Kd.C_string (P := Try.prog) (A := A0) (c := c0) Try.underlying22 Try.underlying5 Try.underlying9 HR0.out
 have hcv4 := Kd.C_string (P := Try.prog) (A := A1) (c := c1) Try.underlying22 Try.underlying5 Try.underlying9 HR1.out
 go_enter Try.func21, Try.ntmps21
 go_wp2
 go_ret
 exact ⟨by first | rfl | (simp; done) | (simp [*]; done), by repeat (first | exact Drawn0.refl _ | apply Drawn0.step)⟩

/-! ### laws_samePacket: function 18 -/
def laws_samePacket.f (a0_0 : Int) (a0_1 : Int) (a0_2 : Int) (a0_3 : Int) (a0_4 : Int) (a0_5 : Int) (a0_6 : Bool) (a0_7 : Bool) (l0_8 : List Int) (a1_0 : Int) (a1_1 : Int) (a1_2 : Int) (a1_3 : Int) (a1_4 : Int) (a1_5 : Int) (a1_6 : Bool) (a1_7 : Bool) (l1_8 : List Int) : Option (Bool) := if a0_0 = a1_0 then (if a0_1 = a1_1 then (if a0_2 = a1_2 then (if a0_3 = a1_3 then (if a0_4 = a1_4 then (if a0_5 = a1_5 then (if (a0_6 == a1_6) = true then (if (a0_7 == a1_7) = true then ((laws_sameBytes.f l0_8 l1_8).bind fun t190 => (some t190)) else (some false)) else (some false)) else (some false)) else (some false)) else (some false)) else (some false)) else (some false)) else (some false)
set_option maxHeartbeats 8000000 in
set_option maxRecDepth 100000 in
theorem laws_samePacket.calls (a0_0 : Int) (a0_1 : Int) (a0_2 : Int) (a0_3 : Int) (a0_4 : Int) (a0_5 : Int) (a0_6 : Bool) (a0_7 : Bool) (A0_8 : Option Addr) (c0_8 : Nat) (l0_8 : List Int) (a1_0 : Int) (a1_1 : Int) (a1_2 : Int) (a1_3 : Int) (a1_4 : Int) (a1_5 : Int) (a1_6 : Bool) (a1_7 : Bool) (A1_8 : Option Addr) (c1_8 : Nat) (l1_8 : List Int) (r : Bool) (w : World) (hr0_8 : Kd.C (Kd.int .u8) w A0_8 l0_8.length l0_8) (hc0_8 : l0_8.length ≤ c0_8) (hr1_8 : Kd.C (Kd.int .u8) w A1_8 l1_8.length l1_8) (hc1_8 : l1_8.length ≤ c1_8) (h : laws_samePacket.f a0_0 a0_1 a0_2 a0_3 a0_4 a0_5 a0_6 a0_7 l0_8 a1_0 a1_1 a1_2 a1_3 a1_4 a1_5 a1_6 a1_7 l1_8 = some r) :
  Calls Try.prog 18 #[.agg #[.int .i64 a0_0, .int .i64 a0_1, .int .i64 a0_2, .int .i64 a0_3, .int .i64 a0_4, .int .i64 a0_5, .bool a0_6, .bool a0_7, .slice A0_8 l0_8.length c0_8], .agg #[.int .i64 a1_0, .int .i64 a1_1, .int .i64 a1_2, .int .i64 a1_3, .int .i64 a1_4, .int .i64 a1_5, .bool a1_6, .bool a1_7, .slice A1_8 l1_8.length c1_8]] w fun e w' => e = .returned (.bool r) ∧ Below w.heap.size w w' := by
 have hu37 := Try.underlying37
 have HR0_8 := mk_ hr0_8
 have HC0_8 := mk_ hc0_8
 clear hr0_8 hc0_8
 have HR1_8 := mk_ hr1_8
 have HC1_8 := mk_ hc1_8
 clear hr1_8 hc1_8
 have HB := mk_ (Below.refl w.heap.size w)
 have H := h
 unfold laws_samePacket.f at H
 clear h
 by_cases c3 : a0_0 = a1_0
 rotate_left
 focus
  rw [if_neg c3] at H
  have c3b0 : (a0_0 == a1_0) = false := beq_eq_false_iff_ne.mpr c3
  have c3b1 : (a0_0 != a1_0) = true := bne_iff_ne.mpr c3
  obtain rfl := Option.some.inj H
 rotate_left
 focus
  rw [if_pos c3] at H
  have c3b0 : (a0_0 == a1_0) = true := beq_iff_eq.mpr c3
  have c3b1 : (a0_0 != a1_0) = false := bne_eq_false_iff_eq.mpr c3
  clear c3
  by_cases c4 : a0_1 = a1_1
  rotate_left
  focus
   rw [if_neg c4] at H
   have c4b0 : (a0_1 == a1_1) = false := beq_eq_false_iff_ne.mpr c4
   have c4b1 : (a0_1 != a1_1) = true := bne_iff_ne.mpr c4
   obtain rfl := Option.some.inj H
  rotate_left
  focus
   rw [if_pos c4] at H
   have c4b0 : (a0_1 == a1_1) = true := beq_iff_eq.mpr c4
   have c4b1 : (a0_1 != a1_1) = false := bne_eq_false_iff_eq.mpr c4
   clear c4
   by_cases c5 : a0_2 = a1_2
   rotate_left
   focus
    rw [if_neg c5] at H
    have c5b0 : (a0_2 == a1_2) = false := beq_eq_false_iff_ne.mpr c5
    have c5b1 : (a0_2 != a1_2) = true := bne_iff_ne.mpr c5
    obtain rfl := Option.some.inj H
   rotate_left
   focus
    rw [if_pos c5] at H
    have c5b0 : (a0_2 == a1_2) = true := beq_iff_eq.mpr c5
    have c5b1 : (a0_2 != a1_2) = false := bne_eq_false_iff_eq.mpr c5
    clear c5
    by_cases c6 : a0_3 = a1_3
    rotate_left
    focus
     rw [if_neg c6] at H
     have c6b0 : (a0_3 == a1_3) = false := beq_eq_false_iff_ne.mpr c6
     have c6b1 : (a0_3 != a1_3) = true := bne_iff_ne.mpr c6
     obtain rfl := Option.some.inj H
    rotate_left
    focus
     rw [if_pos c6] at H
     have c6b0 : (a0_3 == a1_3) = true := beq_iff_eq.mpr c6
     have c6b1 : (a0_3 != a1_3) = false := bne_eq_false_iff_eq.mpr c6
     clear c6
     by_cases c7 : a0_4 = a1_4
     rotate_left
     focus
      rw [if_neg c7] at H
      have c7b0 : (a0_4 == a1_4) = false := beq_eq_false_iff_ne.mpr c7
      have c7b1 : (a0_4 != a1_4) = true := bne_iff_ne.mpr c7
      obtain rfl := Option.some.inj H
     rotate_left
     focus
      rw [if_pos c7] at H
      have c7b0 : (a0_4 == a1_4) = true := beq_iff_eq.mpr c7
      have c7b1 : (a0_4 != a1_4) = false := bne_eq_false_iff_eq.mpr c7
      clear c7
      by_cases c8 : a0_5 = a1_5
      rotate_left
      focus
       rw [if_neg c8] at H
       have c8b0 : (a0_5 == a1_5) = false := beq_eq_false_iff_ne.mpr c8
       have c8b1 : (a0_5 != a1_5) = true := bne_iff_ne.mpr c8
       obtain rfl := Option.some.inj H
      rotate_left
      focus
       rw [if_pos c8] at H
       have c8b0 : (a0_5 == a1_5) = true := beq_iff_eq.mpr c8
       have c8b1 : (a0_5 != a1_5) = false := bne_eq_false_iff_eq.mpr c8
       clear c8
       by_cases c9 : (a0_6 == a1_6) = true
       rotate_left
       focus
        rw [if_neg c9] at H
        have c9b0 : (a0_6 == a1_6) = false := by simpa using c9
        (try (have c9b1 : decide (a0_6 = a1_6) = false := by simpa using c9))
        (try (have c9b2 : (a0_6 == a1_6) = false := by simpa using c9))
        (try (have c9b3 : ¬ (a0_6 = a1_6) := by simpa using c9))
        clear c9
        obtain rfl := Option.some.inj H
       rotate_left
       focus
        rw [if_pos c9] at H
        have c9b0 : (a0_6 == a1_6) = true := c9
        (try (have c9b1 : decide (a0_6 = a1_6) = true := by simpa using c9))
        (try (have c9b2 : (a0_6 == a1_6) = true := by simpa using c9))
        clear c9
        by_cases c10 : (a0_7 == a1_7) = true
        rotate_left
        focus
         rw [if_neg c10] at H
         have c10b0 : (a0_7 == a1_7) = false := by simpa using c10
         (try (have c10b1 : decide (a0_7 = a1_7) = false := by simpa using c10))
         (try (have c10b2 : (a0_7 == a1_7) = false := by simpa using c10))
         (try (have c10b3 : ¬ (a0_7 = a1_7) := by simpa using c10))
         clear c10
         obtain rfl := Option.some.inj H
        rotate_left
        focus
         rw [if_pos c10] at H
         have c10b0 : (a0_7 == a1_7) = true := c10
         (try (have c10b1 : decide (a0_7 = a1_7) = true := by simpa using c10))
         (try (have c10b2 : (a0_7 == a1_7) = true := by simpa using c10))
         clear c10
         replace H := Option.bind_eq_some_iff.mp H
         obtain ⟨t190, A110, H⟩ := H
         replace H : (some t190) = some r := H
         have A11 := mk_ A110
         clear A110
         obtain rfl := Option.some.inj H
        rotate_left
       rotate_left 2
      rotate_left 3
     rotate_left 4
    rotate_left 5
   rotate_left 6
  rotate_left 7
 rotate_left 8
 all_goals
  go_enter Try.func18, Try.ntmps18
  go_wp2_with (first | ((with_reducible refine gate_dst (N := 2) rfl ?_); refine box_event ?hg (N := 2) ?hd (cs := #[.int .i64 a0_0, .int .i64 a0_1, .int .i64 a0_2, .int .i64 a0_3, .int .i64 a0_4, .int .i64 a0_5, .bool a0_6, .bool a0_7, .slice A0_8 l0_8.length c0_8]) (t := 37) ?hr ?_; (case hd => rfl); (case hg => rfl); (case hr => first | (go_simp; done) | (go_simp; rfl)); intro gb21920 hg w21921 hbox hb; have n0_ := mk_ (below_step (ub_ HB.out) hb); have BK188 := mk_ (hbox); have GW188 := mk_ ((by rw [hg]; exact (below_size (ub_ HB.out)) : w.heap.size ≤ gb21920)); have GE188 := ge_ ((by rw [hg]; exact (below_size (ub_ HB.out)) : w.heap.size ≤ gb21920)); replace HB := n0_; clear n0_; clear hb hbox hg) | ((with_reducible refine gate_dst (N := 3) rfl ?_); refine box_event ?hg (N := 3) ?hd (cs := #[.int .i64 a1_0, .int .i64 a1_1, .int .i64 a1_2, .int .i64 a1_3, .int .i64 a1_4, .int .i64 a1_5, .bool a1_6, .bool a1_7, .slice A1_8 l1_8.length c1_8]) (t := 37) ?hr ?_; (case hd => rfl); (case hg => rfl); (case hr => first | (go_simp; done) | (go_simp; rfl)); intro gb22320 hg w22321 hbox hb; have n0_ := mk_ (blk_below (u_ BK188.out) hb); have n1_ := mk_ (below_step (us_ HB.out) hb); have BK189 := mk_ (hbox); have GW189 := mk_ ((by rw [hg]; exact (below_size (us_ HB.out)) : w.heap.size ≤ gb22320)); have GE189 := ge_ ((by rw [hg]; exact (below_size (us_ HB.out)) : w.heap.size ≤ gb22320)); have NB188_189 := nq_ ((by rw [hg]; exact Nat.ne_of_lt (blk_lt (u_ BK188.out)) : gb21920 ≠ gb22320)); have NB189_188 := nq_ ((by rw [hg]; exact Nat.ne_of_gt (blk_lt (u_ BK188.out)) : gb22320 ≠ gb21920)); replace BK188 := n0_; replace HB := n1_; clear n0_ n1_; clear hb hbox hg; have hnb5330188189 := NB188_189.out; have hnc5330188189 := NB189_188.out; obtain ⟨hcz5330188_0, hcz5330188_1, hcz5330188_2, hcz5330188_3, hcz5330188_4, hcz5330188_5, hcz5330188_6, hcz5330188_7, hcz5330188_8, hfz5330188_0, hfz5330188_1, hfz5330188_2, hfz5330188_3, hfz5330188_4, hfz5330188_5, hfz5330188_6, hfz5330188_7, hfz5330188_8⟩ := cells9_ BK188.out; obtain ⟨hcz5330189_0, hcz5330189_1, hcz5330189_2, hcz5330189_3, hcz5330189_4, hcz5330189_5, hcz5330189_6, hcz5330189_7, hcz5330189_8, hfz5330189_0, hfz5330189_1, hfz5330189_2, hfz5330189_3, hfz5330189_4, hfz5330189_5, hfz5330189_6, hfz5330189_7, hfz5330189_8⟩ := cells9_ BK189.out) | (go_at_call 21; (with_reducible refine (laws_sameBytes.calls _ _ l0_8 _ _ l1_8 t190 _ ?side1 ?side2 ?side3 ?side4 A11.out).mono ?_); (case side1 => repeat (first | exact (Kd.C_below HR0_8.out HB.out) | (with_reducible refine Kd.C_alloc ?_ _) | (with_reducible refine Kd.C_drewN ?_ _) | (with_reducible refine Kd.C_drew ?_))); (case side2 => exact HC0_8.out); (case side3 => repeat (first | exact (Kd.C_below HR1_8.out HB.out) | (with_reducible refine Kd.C_alloc ?_ _) | (with_reducible refine Kd.C_drewN ?_ _) | (with_reducible refine Kd.C_drew ?_))); (case side4 => exact HC1_8.out); rintro e w' ⟨rfl, ⟨nd, rfl⟩⟩))
  go_ret
  exact ⟨by first | rfl | (simp [errW_none, errW_some] <;> rfl) | (simp [*, errW_none, errW_some] <;> rfl), us_ HB.out⟩

/-! ### impl_NoteFault: function 22 -/
def impl_NoteFault.f (k : Nat) (a0_0 : Int) (a0_1 : Int) (a0_2 : Int) (a0_3 : Int) (a0_4 : Int) (a0_5 : Int) (a0_6 : Bool) (a0_7 : Bool) (l0_8 : List Int) : Option (Bool) := (impl_NoteFrom.f k l0_8).bind fun bt192 => (if bt192.2.2.2 = true then (if a0_2 = 1 then (some (decide (bt192.1 ≥ 3))) else (some false)) else (some false))
theorem impl_NoteFault.mono : ∀ a0 a1 a2 a3 a4 a5 a6 a7 a8 k, LeO (impl_NoteFault.f k a0 a1 a2 a3 a4 a5 a6 a7 a8) (impl_NoteFault.f (k + 1) a0 a1 a2 a3 a4 a5 a6 a7 a8) := by
 intro a0 a1 a2 a3 a4 a5 a6 a7 a8 k
 unfold impl_NoteFault.f
 repeat' first
   | (with_reducible exact impl_NoteFrom.mono _ _)
   | (with_reducible exact LeO.refl _)
   | (with_reducible exact LeO.none _)
   | (with_reducible refine LeO.ite ?_ ?_)
   | (with_reducible refine LeO.bind ?_ (fun _ => ?_))
   | exact impl_NoteFrom.mono _ _
   | exact LeO.none _
   | refine LeO.ite ?_ ?_
   | refine LeO.bind ?_ (fun _ => ?_)
set_option maxHeartbeats 8000000 in
set_option maxRecDepth 100000 in
theorem impl_NoteFault.calls (k : Nat) (a0_0 : Int) (a0_1 : Int) (a0_2 : Int) (a0_3 : Int) (a0_4 : Int) (a0_5 : Int) (a0_6 : Bool) (a0_7 : Bool) (A0_8 : Option Addr) (c0_8 : Nat) (l0_8 : List Int) (r : Bool) (w : World) (hr0_8 : Kd.C (Kd.int .u8) w A0_8 l0_8.length l0_8) (hc0_8 : l0_8.length ≤ c0_8) (h : impl_NoteFault.f k a0_0 a0_1 a0_2 a0_3 a0_4 a0_5 a0_6 a0_7 l0_8 = some r) :
  Calls Try.prog 22 #[.agg #[.int .i64 a0_0, .int .i64 a0_1, .int .i64 a0_2, .int .i64 a0_3, .int .i64 a0_4, .int .i64 a0_5, .bool a0_6, .bool a0_7, .slice A0_8 l0_8.length c0_8]] w fun e w' => e = .returned (.bool r) ∧ Below w.heap.size w w' := by
 have hu37 := Try.underlying37
 have hu44 := Try.underlying44
 have HR0_8 := mk_ hr0_8
 have HC0_8 := mk_ hc0_8
 clear hr0_8 hc0_8
 have HB := mk_ (Below.refl w.heap.size w)
 have H := h
 unfold impl_NoteFault.f at H
 clear h
 replace H := Option.bind_eq_some_iff.mp H
 obtain ⟨⟨t192, t193, t194, t197⟩, A20, H⟩ := H
 (try dsimp only at H)
 have A2 := mk_ A20
 clear A20
 by_cases c3 : t197 = true
 rotate_left
 focus
  replace c3 := Bool.eq_false_iff.mpr c3
  subst c3
  have H1 : (some false) = some r := by rw [if_neg (show ¬ (false = true) by decide)] at H; exact H
  clear H
  have H := H1
  clear H1
  obtain rfl := Option.some.inj H
 rotate_left
 focus
  subst c3
  rw [if_pos rfl] at H
  by_cases c4 : a0_2 = 1
  rotate_left
  focus
   rw [if_neg c4] at H
   have c4b0 : (a0_2 == 1) = false := beq_eq_false_iff_ne.mpr c4
   have c4b1 : (a0_2 != 1) = true := bne_iff_ne.mpr c4
   obtain rfl := Option.some.inj H
  rotate_left
  focus
   rw [if_pos c4] at H
   have c4b0 : (a0_2 == 1) = true := beq_iff_eq.mpr c4
   have c4b1 : (a0_2 != 1) = false := bne_eq_false_iff_eq.mpr c4
   clear c4
   obtain rfl := Option.some.inj H
  rotate_left
 rotate_left 2
 all_goals
  go_enter Try.func22, Try.ntmps22
  go_wp2_with (first | ((with_reducible refine gate_dst (N := 1) rfl ?_); refine box_event ?hg (N := 1) ?hd (cs := #[.int .i64 a0_0, .int .i64 a0_1, .int .i64 a0_2, .int .i64 a0_3, .int .i64 a0_4, .int .i64 a0_5, .bool a0_6, .bool a0_7, .slice A0_8 l0_8.length c0_8]) (t := 37) ?hr ?_; (case hd => rfl); (case hg => rfl); (case hr => first | (go_simp; done) | (go_simp; rfl)); intro gb2120 hg w2121 hbox hb; have n0_ := mk_ (below_step (ub_ HB.out) hb); have BK191 := mk_ (hbox); have GW191 := mk_ ((by rw [hg]; exact (below_size (ub_ HB.out)) : w.heap.size ≤ gb2120)); have GE191 := ge_ ((by rw [hg]; exact (below_size (ub_ HB.out)) : w.heap.size ≤ gb2120)); replace HB := n0_; clear n0_; clear hb hbox hg; obtain ⟨hcz280191_0, hcz280191_1, hcz280191_2, hcz280191_3, hcz280191_4, hcz280191_5, hcz280191_6, hcz280191_7, hcz280191_8, hfz280191_0, hfz280191_1, hfz280191_2, hfz280191_3, hfz280191_4, hfz280191_5, hfz280191_6, hfz280191_7, hfz280191_8⟩ := cells9_ BK191.out) | ((with_reducible refine gate_callee (f := 19) rfl ?_); refine goesL_ (some 8) rfl rfl Try.func19 (by kernel_rfl) rfl #[.slice A0_8 l0_8.length c0_8] rfl (by (try simp only [lm_, lo_, ln_]); try rfl) ?_; (with_reducible refine (impl_NoteFrom.calls k _ _ l0_8 t192 t193 t194 false _ ?side1 ?side2 A2.out).mono ?_); (case side1 => repeat (first | exact (Kd.C_below HR0_8.out HB.out) | (with_reducible refine Kd.C_alloc ?_ _) | (with_reducible refine Kd.C_drewN ?_ _) | (with_reducible refine Kd.C_drew ?_))); (case side2 => exact HC0_8.out); rintro e w22400 ⟨v22401, rfl, ho22402, hb⟩; refine ⟨_, rfl, ?_⟩; have HO196 := mk_ (Kd.R_lower ho22402 (below_size (us_ HB.out))); replace BK191 := mk_ (blk_below (u_ BK191.out) hb); replace HB := mk_ (below_step (us_ HB.out) hb)) | ((with_reducible refine gate_callee (f := 19) rfl ?_); refine goesL_ (some 8) rfl rfl Try.func19 (by kernel_rfl) rfl #[.slice A0_8 l0_8.length c0_8] rfl (by (try simp only [lm_, lo_, ln_]); try rfl) ?_; (with_reducible refine (impl_NoteFrom.calls k _ _ l0_8 t192 t193 t194 true _ ?side1 ?side2 A2.out).mono ?_); (case side1 => repeat (first | exact (Kd.C_below HR0_8.out HB.out) | (with_reducible refine Kd.C_alloc ?_ _) | (with_reducible refine Kd.C_drewN ?_ _) | (with_reducible refine Kd.C_drew ?_))); (case side2 => exact HC0_8.out); rintro e w22400 ⟨v22401, rfl, ho22402, hb⟩; refine ⟨_, rfl, ?_⟩; have HO196 := mk_ (Kd.R_lower ho22402 (below_size (us_ HB.out))); replace BK191 := mk_ (blk_below (u_ BK191.out) hb); replace HB := mk_ (below_step (us_ HB.out) hb)) | ((with_reducible refine gate_dst (N := 3) rfl ?_); refine box_event ?hg (N := 3) ?hd (cs := #[.int .i64 0, .int .i64 0, .slice none 0 0]) (t := 44) ?hr ?_; (case hd => rfl); (case hg => rfl); (case hr => first | (go_simp; done) | (go_simp; rfl)); intro gb18640 hg w18641 hbox hb; replace HO196 := mk_ (Kd.R_below (Kd.ur_ HO196.out) hb); have n1_ := mk_ (blk_below (u_ BK191.out) hb); have n2_ := mk_ (below_step (us_ HB.out) hb); have BK198 := mk_ (hbox); have GW198 := mk_ ((by rw [hg]; exact (below_size (us_ HB.out)) : w.heap.size ≤ gb18640)); have GE198 := ge_ ((by rw [hg]; exact (below_size (us_ HB.out)) : w.heap.size ≤ gb18640)); have NB191_198 := nq_ ((by rw [hg]; exact Nat.ne_of_lt (blk_lt (u_ BK191.out)) : gb2120 ≠ gb18640)); have NB198_191 := nq_ ((by rw [hg]; exact Nat.ne_of_gt (blk_lt (u_ BK191.out)) : gb18640 ≠ gb2120)); replace BK191 := n1_; replace HB := n2_; clear n1_ n2_; clear hb hbox hg; have hnb4410191198 := NB198_191.out; have hnc4410191198 := NB191_198.out; obtain ⟨hcz4410198_0, hcz4410198_1, hcz4410198_2, hfz4410198_0, hfz4410198_1, hfz4410198_2⟩ := cells3_ BK198.out; obtain ⟨Ao4410196, co4410196, eo4410196⟩ := Kd.R_slice HO196.out; subst eo4410196; obtain ⟨hcz4410191_0, hcz4410191_1, hcz4410191_2, hcz4410191_3, hcz4410191_4, hcz4410191_5, hcz4410191_6, hcz4410191_7, hcz4410191_8, hfz4410191_0, hfz4410191_1, hfz4410191_2, hfz4410191_3, hfz4410191_4, hfz4410191_5, hfz4410191_6, hfz4410191_7, hfz4410191_8⟩ := cells9_ BK191.out))
  go_ret
  exact ⟨by first | rfl | (simp [errW_none, errW_some] <;> rfl) | (simp [*, errW_none, errW_some] <;> rfl), us_ HB.out⟩

end Go.Proofs.Ytkkibccnpkbbjab.MFnNoteAbout
