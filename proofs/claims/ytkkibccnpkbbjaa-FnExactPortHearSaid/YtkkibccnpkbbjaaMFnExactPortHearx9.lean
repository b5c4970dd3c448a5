/- Functions that the law FnExactPortHear reaches, each with the proof that the machine's call comes to just its answer; no conditions but those that each theorem states. Printed by a program of this session over the kit's print. -/
import Derived.Test.YtkkibccnpkbbjaaMFnExactPortHearx0
import Derived.Test.YtkkibccnpkbbjaaMFnExactPortHearx1
import Derived.Test.YtkkibccnpkbbjaaMFnExactPortHearx4
import Derived.Deep.QuietTactic
import Derived.BigQuiet
import Derived.StillTailTactics
import Derived.IntWalk
namespace Go.Proofs.Ytkkibccnpkbbjaa.MFnExactPortHear
open Go.RowKit Go.Proofs.YtkkibccnpkbbjaaV.PrintWords Go.Proofs.YtkkibccnpkbbjaaV.PrintLast Go.Proofs.YtkkibccnpkbbjaaV.PrintMore
attribute [local go_sem] max2_int min2_int max_two min_two max_three min_three max_four min_four   -- for this text's walks alone
set_option linter.unusedVariables false
set_option linter.unusedSimpArgs false

/-! ### spec_PacketOk: function 65 -/
def spec_PacketOk.f (a0_0 : Int) (a0_1 : Int) (a0_2 : Int) (a0_3 : Int) (a0_4 : Int) (a0_5 : Int) (a0_6 : Bool) (a0_7 : Bool) (l0_8 : List Int) : Option (Bool) := (spec_l1In.f a0_0 0 65535).bind fun t260 => (if t260 = true then ((spec_l1In.f a0_1 0 65535).bind fun t261 => (if t261 = true then ((spec_l1In.f a0_2 0 255).bind fun t262 => (if t262 = true then ((spec_l1In.f a0_3 0 255).bind fun t263 => (if t263 = true then ((spec_l1In.f a0_4 0 255).bind fun t264 => (if t264 = true then ((spec_l1In.f a0_5 0 255).bind fun t265 => (if t265 = true then (if (l0_8.length : Int) ≤ 48 then (if a0_6 = true then (if (l0_8.length : Int) > 0 then (if a0_7 = true then (if a0_5 = 0 then (some (!a0_6)) else (some false)) else (some true)) else (some false)) else (if a0_7 = true then (if a0_5 = 0 then (some (!a0_6)) else (some false)) else (some true))) else (some false)) else (some false))) else (some false))) else (some false))) else (some false))) else (some false))) else (some false))
set_option maxHeartbeats 8000000 in
set_option maxRecDepth 100000 in
theorem spec_PacketOk.calls (a0_0 : Int) (a0_1 : Int) (a0_2 : Int) (a0_3 : Int) (a0_4 : Int) (a0_5 : Int) (a0_6 : Bool) (a0_7 : Bool) (A0_8 : Option Addr) (c0_8 : Nat) (l0_8 : List Int) (r : Bool) (w : World) (hr0_8 : Kd.C (Kd.int .u8) w A0_8 l0_8.length l0_8) (hc0_8 : l0_8.length ≤ c0_8) (h : spec_PacketOk.f a0_0 a0_1 a0_2 a0_3 a0_4 a0_5 a0_6 a0_7 l0_8 = some r) :
  Calls Try.prog 65 #[.agg #[.int .i64 a0_0, .int .i64 a0_1, .int .i64 a0_2, .int .i64 a0_3, .int .i64 a0_4, .int .i64 a0_5, .bool a0_6, .bool a0_7, .slice A0_8 l0_8.length c0_8]] w fun e w' => e = .returned (.bool r) ∧ Below w.heap.size w w' := by
 have hu52 := Try.underlying52
 have HR0_8 := mk_ hr0_8
 have HC0_8 := mk_ hc0_8
 clear hr0_8 hc0_8
 have HB := mk_ (Below.refl w.heap.size w)
 have H := h
 unfold spec_PacketOk.f at H
 clear h
 replace H := Option.bind_eq_some_iff.mp H
 obtain ⟨t260, A20, H⟩ := H
 (try dsimp only at H)
 have A2 := mk_ A20
 clear A20
 by_cases c3 : t260 = true
 rotate_left
 focus
  replace c3 := Bool.eq_false_iff.mpr c3
  subst c3
  have H1 : (some false) = some r := by rw [if_neg (show ¬ (false = true) by decide)] at H; exact H
  clear H
  have H := H1
  clear H1
  obtain rfl := Option.some.inj H
 rotate_left
 focus
  subst c3
  rw [if_pos rfl] at H
  replace H := Option.bind_eq_some_iff.mp H
  obtain ⟨t261, A40, H⟩ := H
  (try dsimp only at H)
  have A4 := mk_ A40
  clear A40
  by_cases c5 : t261 = true
  rotate_left
  focus
   replace c5 := Bool.eq_false_iff.mpr c5
   subst c5
   have H1 : (some false) = some r := by rw [if_neg (show ¬ (false = true) by decide)] at H; exact H
   clear H
   have H := H1
   clear H1
   obtain rfl := Option.some.inj H
  rotate_left
  focus
   subst c5
   rw [if_pos rfl] at H
   replace H := Option.bind_eq_some_iff.mp H
   obtain ⟨t262, A60, H⟩ := H
   (try dsimp only at H)
   have A6 := mk_ A60
   clear A60
   by_cases c7 : t262 = true
   rotate_left
   focus
    replace c7 := Bool.eq_false_iff.mpr c7
    subst c7
    have H1 : (some false) = some r := by rw [if_neg (show ¬ (false = true) by decide)] at H; exact H
    clear H
    have H := H1
    clear H1
    obtain rfl := Option.some.inj H
   rotate_left
   focus
    subst c7
    rw [if_pos rfl] at H
    replace H := Option.bind_eq_some_iff.mp H
    obtain ⟨t263, A80, H⟩ := H
    (try dsimp only at H)
    have A8 := mk_ A80
    clear A80
    by_cases c9 : t263 = true
    rotate_left
    focus
     replace c9 := Bool.eq_false_iff.mpr c9
     subst c9
     have H1 : (some false) = some r := by rw [if_neg (show ¬ (false = true) by decide)] at H; exact H
     clear H
     have H := H1
     clear H1
     obtain rfl := Option.some.inj H
    rotate_left
    focus
     subst c9
     rw [if_pos rfl] at H
     replace H := Option.bind_eq_some_iff.mp H
     obtain ⟨t264, A100, H⟩ := H
     (try dsimp only at H)
     have A10 := mk_ A100
     clear A100
     by_cases c11 : t264 = true
     rotate_left
     focus
      replace c11 := Bool.eq_false_iff.mpr c11
      subst c11
      have H1 : (some false) = some r := by rw [if_neg (show ¬ (false = true) by decide)] at H; exact H
      clear H
      have H := H1
      clear H1
      obtain rfl := Option.some.inj H
     rotate_left
     focus
      subst c11
      rw [if_pos rfl] at H
      replace H := Option.bind_eq_some_iff.mp H
      obtain ⟨t265, A120, H⟩ := H
      (try dsimp only at H)
      have A12 := mk_ A120
      clear A120
      by_cases c13 : t265 = true
      rotate_left
      focus
       replace c13 := Bool.eq_false_iff.mpr c13
       subst c13
       have H1 : (some false) = some r := by rw [if_neg (show ¬ (false = true) by decide)] at H; exact H
       clear H
       have H := H1
       clear H1
       obtain rfl := Option.some.inj H
      rotate_left
      focus
       subst c13
       rw [if_pos rfl] at H
       by_cases c14 : (l0_8.length : Int) ≤ 48
       rotate_left
       focus
        rw [if_neg c14] at H
        have c14b0 : decide ((l0_8.length : Int) ≤ 48) = false := decide_eq_false c14
        have c14b1 : decide (l0_8.length ≤ 48) = false := decide_eq_false (by omega)
        clear c14
        obtain rfl := Option.some.inj H
       rotate_left
       focus
        rw [if_pos c14] at H
        have c14b0 : decide ((l0_8.length : Int) ≤ 48) = true := decide_eq_true c14
        have c14b1 : decide (l0_8.length ≤ 48) = true := decide_eq_true (by omega)
        clear c14
        by_cases c15 : a0_6 = true
        rotate_left
        focus
         replace c15 := Bool.eq_false_iff.mpr c15
         subst c15
         rw [if_neg (show ¬ (false = true) by decide)] at H
         by_cases c27 : a0_7 = true
         rotate_left
         focus
          replace c27 := Bool.eq_false_iff.mpr c27
          subst c27
          have H1 : (some true) = some r := by rw [if_neg (show ¬ (false = true) by decide)] at H; exact H
          clear H
          have H := H1
          clear H1
          obtain rfl := Option.some.inj H
         rotate_left
         focus
          subst c27
          rw [if_pos rfl] at H
          by_cases c28 : a0_5 = 0
          rotate_left
          focus
           rw [if_neg c28] at H
           have c28b0 : (a0_5 == 0) = false := beq_eq_false_iff_ne.mpr c28
           have c28b1 : (a0_5 != 0) = true := bne_iff_ne.mpr c28
           obtain rfl := Option.some.inj H
          rotate_left
          focus
           rw [if_pos c28] at H
           have c28b0 : (a0_5 == 0) = true := beq_iff_eq.mpr c28
           have c28b1 : (a0_5 != 0) = false := bne_eq_false_iff_eq.mpr c28
           clear c28
           obtain rfl := Option.some.inj H
          rotate_left
         rotate_left 2
        rotate_left 3
        focus
         subst c15
         rw [if_pos rfl] at H
         by_cases c16 : (l0_8.length : Int) > 0
         rotate_left
         focus
          rw [if_neg c16] at H
          have c16b0 : decide (0 < (l0_8.length : Int)) = false := decide_eq_false c16
          have c16b1 : decide (0 < l0_8.length) = false := decide_eq_false (by omega)
          clear c16
          obtain rfl := Option.some.inj H
         rotate_left
         focus
          rw [if_pos c16] at H
          have c16b0 : decide (0 < (l0_8.length : Int)) = true := decide_eq_true c16
          have c16b1 : decide (0 < l0_8.length) = true := decide_eq_true (by omega)
          clear c16
          by_cases c17 : a0_7 = true
          rotate_left
          focus
           replace c17 := Bool.eq_false_iff.mpr c17
           subst c17
           have H1 : (some true) = some r := by rw [if_neg (show ¬ (false = true) by decide)] at H; exact H
           clear H
           have H := H1
           clear H1
           obtain rfl := Option.some.inj H
          rotate_left
          focus
           subst c17
           rw [if_pos rfl] at H
           by_cases c18 : a0_5 = 0
           rotate_left
           focus
            rw [if_neg c18] at H
            have c18b0 : (a0_5 == 0) = false := beq_eq_false_iff_ne.mpr c18
            have c18b1 : (a0_5 != 0) = true := bne_iff_ne.mpr c18
            obtain rfl := Option.some.inj H
           rotate_left
           focus
            rw [if_pos c18] at H
            have c18b0 : (a0_5 == 0) = true := beq_iff_eq.mpr c18
            have c18b1 : (a0_5 != 0) = false := bne_eq_false_iff_eq.mpr c18
            clear c18
            obtain rfl := Option.some.inj H
           rotate_left
          rotate_left 2
         rotate_left 3
        rotate_left 4
       rotate_left 7
      rotate_left 8
     rotate_left 9
    rotate_left 10
   rotate_left 11
  rotate_left 12
 rotate_left 13
 all_goals
  go_enter Try.func65, Try.ntmps65
 have z11_ := trivial
 rotate_left
 have z11_ := trivial
 rotate_left
 have z11_ := trivial
 rotate_left
 have z11_ := trivial
 rotate_left
 have z11_ := trivial
 rotate_left
 have z11_ := trivial
 rotate_left
 have z11_ := trivial
 rotate_left
 have z12_ := trivial
 rotate_left
 have z13_ := trivial
 rotate_left
 have z13_ := trivial
 rotate_left
 have z14_ := trivial
 rotate_left
 have z15_ := trivial
 rotate_left
 have z16_ := trivial
 rotate_left
 have z16_ := trivial
 rotate_left
 all_goals
  go_wp2_with (first | (have zz_ := z11_; clear zz_; (with_reducible refine gate_dst (N := 1) rfl ?_); refine box_event ?hg (N := 1) ?hd (cs := #[.int .i64 a0_0, .int .i64 a0_1, .int .i64 a0_2, .int .i64 a0_3, .int .i64 a0_4, .int .i64 a0_5, .bool a0_6, .bool a0_7, .slice A0_8 l0_8.length c0_8]) (t := 52) ?hr ?_; (case hd => rfl); (case hg => rfl); (case hr => first | (go_simp; done) | (go_simp; rfl)); intro gb9800 hg w9801 hbox hb; have n0_ := mk_ (below_step (ub_ HB.out) hb); have BK259 := mk_ (hbox); have GW259 := mk_ ((by rw [hg]; exact (below_size (ub_ HB.out)) : w.heap.size ≤ gb9800)); have GE259 := ge_ ((by rw [hg]; exact (below_size (ub_ HB.out)) : w.heap.size ≤ gb9800)); replace HB := n0_; clear n0_; clear hb hbox hg; obtain ⟨_, _, _, _, _, _, _, _, _, _, _, _, _, _, _, _, _, _⟩ := cells9_ BK259.out) | (have zz_ := z12_; clear zz_; (with_reducible refine gate_dst (N := 1) rfl ?_); refine box_event ?hg (N := 1) ?hd (cs := #[.int .i64 a0_0, .int .i64 a0_1, .int .i64 a0_2, .int .i64 a0_3, .int .i64 a0_4, .int .i64 a0_5, .bool false, .bool false, .slice A0_8 l0_8.length c0_8]) (t := 52) ?hr ?_; (case hd => rfl); (case hg => rfl); (case hr => first | (go_simp; done) | (go_simp; rfl)); intro gb9800 hg w9801 hbox hb; have n0_ := mk_ (below_step (ub_ HB.out) hb); have BK259 := mk_ (hbox); have GW259 := mk_ ((by rw [hg]; exact (below_size (ub_ HB.out)) : w.heap.size ≤ gb9800)); have GE259 := ge_ ((by rw [hg]; exact (below_size (ub_ HB.out)) : w.heap.size ≤ gb9800)); replace HB := n0_; clear n0_; clear hb hbox hg; obtain ⟨_, _, _, _, _, _, _, _, _, _, _, _, _, _, _, _, _, _⟩ := cells9_ BK259.out) | (have zz_ := z13_; clear zz_; (with_reducible refine gate_dst (N := 1) rfl ?_); refine box_event ?hg (N := 1) ?hd (cs := #[.int .i64 a0_0, .int .i64 a0_1, .int .i64 a0_2, .int .i64 a0_3, .int .i64 a0_4, .int .i64 a0_5, .bool false, .bool true, .slice A0_8 l0_8.length c0_8]) (t := 52) ?hr ?_; (case hd => rfl); (case hg => rfl); (case hr => first | (go_simp; done) | (go_simp; rfl)); intro gb9800 hg w9801 hbox hb; have n0_ := mk_ (below_step (ub_ HB.out) hb); have BK259 := mk_ (hbox); have GW259 := mk_ ((by rw [hg]; exact (below_size (ub_ HB.out)) : w.heap.size ≤ gb9800)); have GE259 := ge_ ((by rw [hg]; exact (below_size (ub_ HB.out)) : w.heap.size ≤ gb9800)); replace HB := n0_; clear n0_; clear hb hbox hg; obtain ⟨_, _, _, _, _, _, _, _, _, _, _, _, _, _, _, _, _, _⟩ := cells9_ BK259.out) | (have zz_ := z14_; clear zz_; (with_reducible refine gate_dst (N := 1) rfl ?_); refine box_event ?hg (N := 1) ?hd (cs := #[.int .i64 a0_0, .int .i64 a0_1, .int .i64 a0_2, .int .i64 a0_3, .int .i64 a0_4, .int .i64 a0_5, .bool true, .bool a0_7, .slice A0_8 l0_8.length c0_8]) (t := 52) ?hr ?_; (case hd => rfl); (case hg => rfl); (case hr => first | (go_simp; done) | (go_simp; rfl)); intro gb9800 hg w9801 hbox hb; have n0_ := mk_ (below_step (ub_ HB.out) hb); have BK259 := mk_ (hbox); have GW259 := mk_ ((by rw [hg]; exact (below_size (ub_ HB.out)) : w.heap.size ≤ gb9800)); have GE259 := ge_ ((by rw [hg]; exact (below_size (ub_ HB.out)) : w.heap.size ≤ gb9800)); replace HB := n0_; clear n0_; clear hb hbox hg; obtain ⟨_, _, _, _, _, _, _, _, _, _, _, _, _, _, _, _, _, _⟩ := cells9_ BK259.out) | (have zz_ := z15_; clear zz_; (with_reducible refine gate_dst (N := 1) rfl ?_); refine box_event ?hg (N := 1) ?hd (cs := #[.int .i64 a0_0, .int .i64 a0_1, .int .i64 a0_2, .int .i64 a0_3, .int .i64 a0_4, .int .i64 a0_5, .bool true, .bool false, .slice A0_8 l0_8.length c0_8]) (t := 52) ?hr ?_; (case hd => rfl); (case hg => rfl); (case hr => first | (go_simp; done) | (go_simp; rfl)); intro gb9800 hg w9801 hbox hb; have n0_ := mk_ (below_step (ub_ HB.out) hb); have BK259 := mk_ (hbox); have GW259 := mk_ ((by rw [hg]; exact (below_size (ub_ HB.out)) : w.heap.size ≤ gb9800)); have GE259 := ge_ ((by rw [hg]; exact (below_size (ub_ HB.out)) : w.heap.size ≤ gb9800)); replace HB := n0_; clear n0_; clear hb hbox hg; obtain ⟨_, _, _, _, _, _, _, _, _, _, _, _, _, _, _, _, _, _⟩ := cells9_ BK259.out) | (have zz_ := z16_; clear zz_; (with_reducible refine gate_dst (N := 1) rfl ?_); refine box_event ?hg (N := 1) ?hd (cs := #[.int .i64 a0_0, .int .i64 a0_1, .int .i64 a0_2, .int .i64 a0_3, .int .i64 a0_4, .int .i64 a0_5, .bool true, .bool true, .slice A0_8 l0_8.length c0_8]) (t := 52) ?hr ?_; (case hd => rfl); (case hg => rfl); (case hr => first | (go_simp; done) | (go_simp; rfl)); intro gb9800 hg w9801 hbox hb; have n0_ := mk_ (below_step (ub_ HB.out) hb); have BK259 := mk_ (hbox); have GW259 := mk_ ((by rw [hg]; exact (below_size (ub_ HB.out)) : w.heap.size ≤ gb9800)); have GE259 := ge_ ((by rw [hg]; exact (below_size (ub_ HB.out)) : w.heap.size ≤ gb9800)); replace HB := n0_; clear n0_; clear hb hbox hg; obtain ⟨_, _, _, _, _, _, _, _, _, _, _, _, _, _, _, _, _, _⟩ := cells9_ BK259.out) | ((with_reducible refine gate_callee (f := 40) rfl ?_); refine goesL_ (some 5) rfl rfl Try.func40 (by kernel_rfl) rfl #[.int .i64 a0_0, .int .i64 0, .int .i64 65535] rfl (by (try simp only [lm_, lo_, ln_]); try rfl) ?_; (with_reducible refine (spec_l1In.calls a0_0 0 65535 false _ A2.out).mono ?_); rintro e w' ⟨rfl, ⟨nd, rfl⟩⟩; refine ⟨_, rfl, ?_⟩) | ((with_reducible refine gate_callee (f := 40) rfl ?_); have hA_ := A2.out; refine goesL_ (some 5) rfl rfl Try.func40 (by kernel_rfl) rfl #[.int .i64 a0_0, .int .i64 0, .int .i64 65535] rfl (by (try simp only [lm_, lo_, ln_]); try rfl) ?_; (with_reducible refine (spec_l1In.calls a0_0 0 65535 true _ A2.out).mono ?_); rintro e w' ⟨rfl, ⟨nd, rfl⟩⟩; refine ⟨_, rfl, ?_⟩; clear hA_ A2) | (go_at_call 40; have hA_ := A4.out; (with_reducible refine (spec_l1In.calls a0_1 0 65535 false _ A4.out).mono ?_); rintro e w' ⟨rfl, ⟨nd, rfl⟩⟩; clear hA_ A4) | (go_at_call 40; have hA_ := A4.out; (with_reducible refine (spec_l1In.calls a0_1 0 65535 true _ A4.out).mono ?_); rintro e w' ⟨rfl, ⟨nd, rfl⟩⟩; clear hA_ A4) | (go_at_call 40; have hA_ := A6.out; (with_reducible refine (spec_l1In.calls a0_2 0 255 false _ A6.out).mono ?_); rintro e w' ⟨rfl, ⟨nd, rfl⟩⟩; clear hA_ A6) | (go_at_call 40; have hA_ := A6.out; (with_reducible refine (spec_l1In.calls a0_2 0 255 true _ A6.out).mono ?_); rintro e w' ⟨rfl, ⟨nd, rfl⟩⟩; clear hA_ A6) | (go_at_call 40; have hA_ := A8.out; (with_reducible refine (spec_l1In.calls a0_3 0 255 false _ A8.out).mono ?_); rintro e w' ⟨rfl, ⟨nd, rfl⟩⟩; clear hA_ A8) | (go_at_call 40; have hA_ := A8.out; (with_reducible refine (spec_l1In.calls a0_3 0 255 true _ A8.out).mono ?_); rintro e w' ⟨rfl, ⟨nd, rfl⟩⟩; clear hA_ A8) | (go_at_call 40; have hA_ := A10.out; (with_reducible refine (spec_l1In.calls a0_4 0 255 false _ A10.out).mono ?_); rintro e w' ⟨rfl, ⟨nd, rfl⟩⟩; clear hA_ A10) | (go_at_call 40; have hA_ := A10.out; (with_reducible refine (spec_l1In.calls a0_4 0 255 true _ A10.out).mono ?_); rintro e w' ⟨rfl, ⟨nd, rfl⟩⟩; clear hA_ A10) | (go_at_call 40; have hA_ := A12.out; (with_reducible refine (spec_l1In.calls a0_5 0 255 false _ A12.out).mono ?_); rintro e w' ⟨rfl, ⟨nd, rfl⟩⟩; clear hA_ A12) | (go_at_call 40; have hA_ := A12.out; (with_reducible refine (spec_l1In.calls a0_5 0 255 true _ A12.out).mono ?_); rintro e w' ⟨rfl, ⟨nd, rfl⟩⟩; clear hA_ A12))
  go_ret
  exact ⟨by first | rfl | (simp [errW_none, errW_some] <;> rfl) | (simp [*, errW_none, errW_some] <;> rfl), us_ HB.out⟩

-- NOT PRINTED: function 32 (spec_PortHear)

/-! ### laws_toPacket: function 33 -/
def laws_toPacket.f (k : Nat) (a0_0 : Int) (a0_1 : Int) (a0_2 : Int) (a0_3 : Int) (a0_4 : Int) (a0_5 : Int) (a0_6 : Bool) (a0_7 : Bool) (l0_8 : List Int) : Option (Int × Int × Int × Int × Int × Int × Bool × Bool × List Int) := (laws_toByteS.f k l0_8).bind fun t289 => (some (a0_0, a0_1, a0_2, a0_3, a0_4, a0_5, a0_6, a0_7, t289))
theorem laws_toPacket.mono : ∀ a0 a1 a2 a3 a4 a5 a6 a7 a8 k, LeO (laws_toPacket.f k a0 a1 a2 a3 a4 a5 a6 a7 a8) (laws_toPacket.f (k + 1) a0 a1 a2 a3 a4 a5 a6 a7 a8) := by
 intro a0 a1 a2 a3 a4 a5 a6 a7 a8 k
 unfold laws_toPacket.f
 repeat' first
   | (with_reducible exact laws_toByteS.mono _ _)
   | (with_reducible exact LeO.refl _)
   | (with_reducible exact LeO.none _)
   | (with_reducible refine LeO.ite ?_ ?_)
   | (with_reducible refine LeO.bind ?_ (fun _ => ?_))
   | exact laws_toByteS.mono _ _
   | exact LeO.none _
   | refine LeO.ite ?_ ?_
   | refine LeO.bind ?_ (fun _ => ?_)
set_option maxHeartbeats 8000000 in
set_option maxRecDepth 100000 in
theorem laws_toPacket.calls (k : Nat) (a0_0 : Int) (a0_1 : Int) (a0_2 : Int) (a0_3 : Int) (a0_4 : Int) (a0_5 : Int) (a0_6 : Bool) (a0_7 : Bool) (A0_8 : Option Addr) (c0_8 : Nat) (l0_8 : List Int) (r1 : Int) (r2 : Int) (r3 : Int) (r4 : Int) (r5 : Int) (r6 : Int) (r7 : Bool) (r8 : Bool) (r9 : List Int) (w : World) (hr0_8 : Kd.C (Kd.int .u8) w A0_8 l0_8.length l0_8) (hc0_8 : l0_8.length ≤ c0_8) (h : laws_toPacket.f k a0_0 a0_1 a0_2 a0_3 a0_4 a0_5 a0_6 a0_7 l0_8 = some (r1, r2, r3, r4, r5, r6, r7, r8, r9)) :
  Calls Try.prog 33 #[.agg #[.int .i64 a0_0, .int .i64 a0_1, .int .i64 a0_2, .int .i64 a0_3, .int .i64 a0_4, .int .i64 a0_5, .bool a0_6, .bool a0_7, .slice A0_8 l0_8.length c0_8]] w fun e w' => ∃ v8_ : Value, e = .returned (.agg #[.int .i64 r1, .int .i64 r2, .int .i64 r3, .int .i64 r4, .int .i64 r5, .int .i64 r6, .bool r7, .bool r8, v8_]) ∧ Kd.R (Kd.int .u8) 5 w' w.heap.size (fun _ => True) v8_ r9 ∧ Below w.heap.size w w' := by
 have hu49 := Try.underlying49
 have hu52 := Try.underlying52
 have HR0_8 := mk_ hr0_8
 have HC0_8 := mk_ hc0_8
 clear hr0_8 hc0_8
 have HB := mk_ (Below.refl w.heap.size w)
 have H := h
 unfold laws_toPacket.f at H
 clear h
 replace H := Option.bind_eq_some_iff.mp H
 obtain ⟨t289, A20, H⟩ := H
 replace H : (some (a0_0, a0_1, a0_2, a0_3, a0_4, a0_5, a0_6, a0_7, t289)) = some (r1, r2, r3, r4, r5, r6, r7, r8, r9) := H
 have A2 := mk_ A20
 clear A20
 simp only [Option.some.injEq, Prod.mk.injEq] at H
 obtain ⟨rfl, rfl, rfl, rfl, rfl, rfl, rfl, rfl, rfl⟩ := H
 go_enter Try.func33, Try.ntmps33
 go_wp2_with (first | ((with_reducible refine gate_dst (N := 1) rfl ?_); refine box_event ?hg (N := 1) ?hd (cs := #[.int .i64 a0_0, .int .i64 a0_1, .int .i64 a0_2, .int .i64 a0_3, .int .i64 a0_4, .int .i64 a0_5, .bool a0_6, .bool a0_7, .slice A0_8 l0_8.length c0_8]) (t := 49) ?hr ?_; (case hd => rfl); (case hg => rfl); (case hr => first | (go_simp; done) | (go_simp; rfl)); intro gb286 hg w3 hbox hb; have n0_ := mk_ (below_step (ub_ HB.out) hb); have BK286 := mk_ (hbox); have GW286 := mk_ ((by rw [hg]; exact (below_size (ub_ HB.out)) : w.heap.size ≤ gb286)); have GE286 := ge_ ((by rw [hg]; exact (below_size (ub_ HB.out)) : w.heap.size ≤ gb286)); replace HB := n0_; clear n0_; clear hb hbox hg) | ((with_reducible refine gate_dst (N := 2) rfl ?_); refine box_event ?hg (N := 2) ?hd (cs := #[.int .i64 0, .int .i64 0, .int .i64 0, .int .i64 0, .int .i64 0, .int .i64 0, .bool false, .bool false, .slice none 0 0]) (t := 52) ?hr ?_; (case hd => rfl); (case hg => rfl); (case hr => first | (go_simp; done) | (go_simp; rfl)); intro gb287 hg w4 hbox hb; have n0_ := mk_ (blk_below (u_ BK286.out) hb); have n1_ := mk_ (below_step (us_ HB.out) hb); have BK287 := mk_ (hbox); have GW287 := mk_ ((by rw [hg]; exact (below_size (us_ HB.out)) : w.heap.size ≤ gb287)); have GE287 := ge_ ((by rw [hg]; exact (below_size (us_ HB.out)) : w.heap.size ≤ gb287)); have NB286_287 := nq_ ((by rw [hg]; exact Nat.ne_of_lt (blk_lt (u_ BK286.out)) : gb286 ≠ gb287)); have NB287_286 := nq_ ((by rw [hg]; exact Nat.ne_of_gt (blk_lt (u_ BK286.out)) : gb287 ≠ gb286)); replace BK286 := n0_; replace HB := n1_; clear n0_ n1_; clear hb hbox hg) | ((with_reducible refine gate_dst (N := 3) rfl ?_); refine box_event ?hg (N := 3) ?hd (cs := #[.int .i64 0, .int .i64 0, .int .i64 0, .int .i64 0, .int .i64 0, .int .i64 0, .bool false, .bool false, .slice none 0 0]) (t := 52) ?hr ?_; (case hd => rfl); (case hg => rfl); (case hr => first | (go_simp; done) | (go_simp; rfl)); intro gb288 hg w5 hbox hb; have n0_ := mk_ (blk_below (u_ BK286.out) hb); have n1_ := mk_ (blk_below (u_ BK287.out) hb); have n2_ := mk_ (below_step (us_ HB.out) hb); have BK288 := mk_ (hbox); have GW288 := mk_ ((by rw [hg]; exact (below_size (us_ HB.out)) : w.heap.size ≤ gb288)); have GE288 := ge_ ((by rw [hg]; exact (below_size (us_ HB.out)) : w.heap.size ≤ gb288)); have NB286_288 := nq_ ((by rw [hg]; exact Nat.ne_of_lt (blk_lt (u_ BK286.out)) : gb286 ≠ gb288)); have NB288_286 := nq_ ((by rw [hg]; exact Nat.ne_of_gt (blk_lt (u_ BK286.out)) : gb288 ≠ gb286)); have NB287_288 := nq_ ((by rw [hg]; exact Nat.ne_of_lt (blk_lt (u_ BK287.out)) : gb287 ≠ gb288)); have NB288_287 := nq_ ((by rw [hg]; exact Nat.ne_of_gt (blk_lt (u_ BK287.out)) : gb288 ≠ gb287)); replace BK286 := n0_; replace BK287 := n1_; replace HB := n2_; clear n0_ n1_ n2_; clear hb hbox hg; have hnb6 := NB286_287.out; have hnc6 := NB287_286.out; have hnb7 := NB286_288.out; have hnc7 := NB288_286.out; obtain ⟨_, _, _, _, _, _, _, _, _, _, _, _, _, _, _, _, _, _⟩ := cells9_ BK286.out; have hnb9 := NB288_287.out; have hnc9 := NB287_288.out; obtain ⟨_, _, _, _, _, _, _, _, _, _, _, _, _, _, _, _, _, _⟩ := cells9_ BK288.out) | ((with_reducible refine gate_store (t := 4) (p := 27) rfl ?_); refine store_event (t := 4) (p := 27) (v := ?vo_w11) (w1 := ?w1_1) ?hg ?ho ?hn ?hr ?_; (case ho => rfl); (case hg => rfl); (case hn => rfl); (case hr => first | (go_simp; done) | (go_simp; rfl)); intro w11 hw; have n0_ : Aside0 (w11.heap[gb286]? = some (.cells #[.int .i64 a0_0, .int .i64 a0_1, .int .i64 a0_2, .int .i64 a0_3, .int .i64 a0_4, .int .i64 a0_5, .bool a0_6, .bool a0_7, .slice A0_8 l0_8.length c0_8] 49 (0, 0))) := ⟨(by rw [hw]; exact (uf_ BK286.out))⟩; have n1_ : Aside0 (w11.heap[gb287]? = some (.cells #[.int .i64 0, .int .i64 0, .int .i64 0, .int .i64 0, .int .i64 0, .int .i64 0, .bool false, .bool false, .slice none 0 0] 52 (0, 0))) := ⟨(by rw [hw]; exact (uf_ BK287.out))⟩; have n2_ : Aside0 (w11.heap[gb288]? = some (.cells #[.int .i64 a0_0, .int .i64 a0_1, .int .i64 a0_2, .int .i64 a0_3, .int .i64 a0_4, .int .i64 a0_5, .bool a0_6, .bool a0_7, .slice none 0 0] 52 (0, 0))) := ⟨(by rw [hw]; exact (by (with_reducible repeat (first | refine bn_ ?_ _ | refine bw_ ?_ | refine ba_ ?_ _)); refine blk_put (cs := #[.int .i64 a0_0, .int .i64 a0_1, .int .i64 a0_2, .int .i64 a0_3, .int .i64 a0_4, .int .i64 a0_5, .bool a0_6, .bool false, .slice none 0 0]) ?_ 7 _ rfl; (with_reducible repeat (first | refine bn_ ?_ _ | refine bw_ ?_ | refine ba_ ?_ _)); refine blk_put (cs := #[.int .i64 a0_0, .int .i64 a0_1, .int .i64 a0_2, .int .i64 a0_3, .int .i64 a0_4, .int .i64 a0_5, .bool false, .bool false, .slice none 0 0]) ?_ 6 _ rfl; (with_reducible repeat (first | refine bn_ ?_ _ | refine bw_ ?_ | refine ba_ ?_ _)); refine blk_put (cs := #[.int .i64 a0_0, .int .i64 a0_1, .int .i64 a0_2, .int .i64 a0_3, .int .i64 a0_4, .int .i64 0, .bool false, .bool false, .slice none 0 0]) ?_ 5 _ rfl; (with_reducible repeat (first | refine bn_ ?_ _ | refine bw_ ?_ | refine ba_ ?_ _)); refine blk_put (cs := #[.int .i64 a0_0, .int .i64 a0_1, .int .i64 a0_2, .int .i64 a0_3, .int .i64 0, .int .i64 0, .bool false, .bool false, .slice none 0 0]) ?_ 4 _ rfl; (with_reducible repeat (first | refine bn_ ?_ _ | refine bw_ ?_ | refine ba_ ?_ _)); refine blk_put (cs := #[.int .i64 a0_0, .int .i64 a0_1, .int .i64 a0_2, .int .i64 0, .int .i64 0, .int .i64 0, .bool false, .bool false, .slice none 0 0]) ?_ 3 _ rfl; (with_reducible repeat (first | refine bn_ ?_ _ | refine bw_ ?_ | refine ba_ ?_ _)); refine blk_put (cs := #[.int .i64 a0_0, .int .i64 a0_1, .int .i64 0, .int .i64 0, .int .i64 0, .int .i64 0, .bool false, .bool false, .slice none 0 0]) ?_ 2 _ rfl; (with_reducible repeat (first | refine bn_ ?_ _ | refine bw_ ?_ | refine ba_ ?_ _)); refine blk_put (cs := #[.int .i64 a0_0, .int .i64 0, .int .i64 0, .int .i64 0, .int .i64 0, .int .i64 0, .bool false, .bool false, .slice none 0 0]) ?_ 1 _ rfl; (with_reducible repeat (first | refine bn_ ?_ _ | refine bw_ ?_ | refine ba_ ?_ _)); refine blk_put (cs := #[.int .i64 0, .int .i64 0, .int .i64 0, .int .i64 0, .int .i64 0, .int .i64 0, .bool false, .bool false, .slice none 0 0]) ?_ 0 _ rfl; (with_reducible repeat (first | refine bn_ ?_ _ | refine bw_ ?_ | refine ba_ ?_ _)); exact BK288.out))⟩; have n3_ : Aside0 (Below w.heap.size w w11) := ⟨(by rw [hw]; exact (us_ HB.out))⟩; clear hw; clear BK286; clear BK287; clear BK288; clear HB; have BK286 := n0_; have BK287 := n1_; have BK288 := n2_; have HB := n3_; clear n0_ n1_ n2_ n3_; obtain ⟨_, _, _, _, _, _, _, _, _, _, _, _, _, _, _, _, _, _⟩ := cells9_ BK286.out) | ((with_reducible refine gate_callee (f := 66) rfl ?_); refine goesL_ (some 30) rfl rfl Try.func66 (by kernel_rfl) rfl #[.slice A0_8 l0_8.length c0_8] rfl (by (try simp only [lm_, lo_, ln_]); try rfl) ?_; (with_reducible refine (laws_toByteS.calls k _ _ l0_8 t289 _ ?side1 ?side2 A2.out).mono ?_); (case side1 => repeat (first | exact (Kd.C_below HR0_8.out HB.out) | (with_reducible refine Kd.C_alloc ?_ _) | (with_reducible refine Kd.C_drewN ?_ _) | (with_reducible refine Kd.C_drew ?_))); (case side2 => exact HC0_8.out); rintro e w13 ⟨v290, rfl, ho0, hb⟩; refine ⟨_, rfl, ?_⟩; have HO291 := mk_ (Kd.R_lower ho0 (below_size (us_ HB.out))); replace BK286 := mk_ (blk_below (u_ BK286.out) hb); replace BK287 := mk_ (blk_below (u_ BK287.out) hb); replace BK288 := mk_ (blk_below (u_ BK288.out) hb); replace HB := mk_ (below_step (us_ HB.out) hb); obtain ⟨Ao14, co14, eo14⟩ := Kd.R_slice HO291.out; subst eo14; obtain ⟨hcz15_0, hcz15_1, hcz15_2, hcz15_3, _, _, _, _, _, hfz15_0, hfz15_1, hfz15_2, hfz15_3, _, _, _, _, _⟩ := cells9_ BK288.out; obtain ⟨_, _, _, _, _, _, _, _, _, _, _, _, _, _, _, _, _, _⟩ := cells9_ BK287.out) | ((with_reducible refine gate_store (t := 52) (p := 2) rfl ?_); refine store_event (t := 52) (p := 2) (v := ?vo_w17) (w1 := ?w1_2) ?hg ?ho ?hn ?hr ?_; (case ho => rfl); (case hg => rfl); (case hn => rfl); (case hr => first | (go_simp; done) | (go_simp; rfl)); intro w17 hw; have n0_ : Aside0 (Kd.R (Kd.int .u8) 5 w17 w.heap.size (fun _ => True) (.slice Ao14 t289.length co14) t289) := ⟨(by rw [hw]; exact (by (with_reducible repeat (first | apply Kd.R_alloc | apply Kd.R_drewN | apply Kd.R_drew)); exact Kd.R_mono (Kd.R_far9 (g := gb287) (Kd.R_far (p := ⟨gb288, 8, none⟩) (Kd.R_types (Kd.R_types HO291.out BK288.out (by decide)) BK287.out (by decide)) (fun _ hk => hk.1.2) (.slice Ao14 t289.length co14)) (fun _ hk => hk.2) _ _ _ _ _ _ _ _ _) (fun _ hk => trivial)))⟩; have n1_ : Aside0 (w17.heap[gb286]? = some (.cells #[.int .i64 a0_0, .int .i64 a0_1, .int .i64 a0_2, .int .i64 a0_3, .int .i64 a0_4, .int .i64 a0_5, .bool a0_6, .bool a0_7, .slice A0_8 l0_8.length c0_8] 49 (0, 0))) := ⟨(by rw [hw]; exact (uf_ BK286.out))⟩; have n2_ : Aside0 (w17.heap[gb287]? = some (.cells #[.int .i64 a0_0, .int .i64 a0_1, .int .i64 a0_2, .int .i64 a0_3, .int .i64 a0_4, .int .i64 a0_5, .bool a0_6, .bool a0_7, .slice Ao14 t289.length co14] 52 (0, 0))) := ⟨(by rw [hw]; exact (by (with_reducible repeat (first | refine bn_ ?_ _ | refine bw_ ?_ | refine ba_ ?_ _)); with_reducible apply blk_put9; (with_reducible repeat (first | refine bn_ ?_ _ | refine bw_ ?_ | refine ba_ ?_ _)); refine blk_far ?_ NB287_288.out _; (with_reducible repeat (first | refine bn_ ?_ _ | refine bw_ ?_ | refine ba_ ?_ _)); exact BK287.out))⟩; have n3_ : Aside0 (w17.heap[gb288]? = some (.cells #[.int .i64 a0_0, .int .i64 a0_1, .int .i64 a0_2, .int .i64 a0_3, .int .i64 a0_4, .int .i64 a0_5, .bool a0_6, .bool a0_7, .slice Ao14 t289.length co14] 52 (0, 0))) := ⟨(by rw [hw]; exact (by (with_reducible repeat (first | refine bn_ ?_ _ | refine bw_ ?_ | refine ba_ ?_ _)); refine blk_far ?_ NB288_287.out _; (with_reducible repeat (first | refine bn_ ?_ _ | refine bw_ ?_ | refine ba_ ?_ _)); refine blk_far ?_ NB288_287.out _; (with_reducible repeat (first | refine bn_ ?_ _ | refine bw_ ?_ | refine ba_ ?_ _)); refine blk_far ?_ NB288_287.out _; (with_reducible repeat (first | refine bn_ ?_ _ | refine bw_ ?_ | refine ba_ ?_ _)); refine blk_far ?_ NB288_287.out _; (with_reducible repeat (first | refine bn_ ?_ _ | refine bw_ ?_ | refine ba_ ?_ _)); refine blk_far ?_ NB288_287.out _; (with_reducible repeat (first | refine bn_ ?_ _ | refine bw_ ?_ | refine ba_ ?_ _)); refine blk_far ?_ NB288_287.out _; (with_reducible repeat (first | refine bn_ ?_ _ | refine bw_ ?_ | refine ba_ ?_ _)); refine blk_far ?_ NB288_287.out _; (with_reducible repeat (first | refine bn_ ?_ _ | refine bw_ ?_ | refine ba_ ?_ _)); refine blk_far ?_ NB288_287.out _; (with_reducible repeat (first | refine bn_ ?_ _ | refine bw_ ?_ | refine ba_ ?_ _)); refine blk_far ?_ NB288_287.out _; (with_reducible repeat (first | refine bn_ ?_ _ | refine bw_ ?_ | refine ba_ ?_ _)); refine blk_put (cs := #[.int .i64 a0_0, .int .i64 a0_1, .int .i64 a0_2, .int .i64 a0_3, .int .i64 a0_4, .int .i64 a0_5, .bool a0_6, .bool a0_7, .slice none 0 0]) ?_ 8 _ rfl; (with_reducible repeat (first | refine bn_ ?_ _ | refine bw_ ?_ | refine ba_ ?_ _)); exact BK288.out))⟩; have n4_ : Aside0 (Below w.heap.size w w17) := ⟨(by rw [hw]; exact (us_ HB.out))⟩; clear hw; clear HO291; clear BK286; clear BK287; clear BK288; clear HB; have HO291 := n0_; have BK286 := n1_; have BK287 := n2_; have BK288 := n3_; have HB := n4_; clear n0_ n1_ n2_ n3_ n4_))
 refine bodyPost_ret (results_cell_row rfl _ _ gb287 52 #[.int .i64 a0_0, .int .i64 a0_1, .int .i64 a0_2, .int .i64 a0_3, .int .i64 a0_4, .int .i64 a0_5, .bool a0_6, .bool a0_7, .slice Ao14 t289.length co14] (0, 0) _ rfl (u_ BK287.out) Try.underlying52 rfl (by kernel_rfl)) rfl ?_
 exact ⟨_, by first | rfl | (simp [errW_none, errW_some] <;> rfl) | (simp [*, errW_none, errW_some] <;> rfl), by (with_reducible repeat (first | apply Kd.R_alloc | apply Kd.R_drewN | apply Kd.R_drew)); exact HO291.out, us_ HB.out⟩

/-! ### impl_in: function 76 -/
def impl_in.f (a0 : Int) (a1 : Int) (a2 : Int) : Option (Bool) := if a0 ≥ a1 then (some (decide (a0 ≤ a2))) else (some false)
set_option maxHeartbeats 8000000 in
set_option maxRecDepth 100000 in
theorem impl_in.calls (a0 : Int) (a1 : Int) (a2 : Int) (r : Bool) (w : World) (h : impl_in.f a0 a1 a2 = some r) :
  Calls Try.prog 76 #[.int .i64 a0, .int .i64 a1, .int .i64 a2] w fun e w' => e = .returned (.bool r) ∧ Drawn0 w w' := by
 have H : (if a0 ≥ a1 then (some (decide (a0 ≤ a2))) else (some false)) = some r := h
 clear h
 by_cases c4 : a0 ≥ a1
 focus
  rw [if_pos c4] at H
  have c4b0 : decide (a1 ≤ a0) = true := decide_eq_true c4
  clear c4
  obtain rfl := Option.some.inj H
 rotate_left
 focus
  rw [if_neg c4] at H
  have c4b0 : decide (a1 ≤ a0) = false := decide_eq_false c4
  clear c4
  obtain rfl := Option.some.inj H
 rotate_left
 all_goals
  go_enter Try.func76, Try.ntmps76
  go_wp2
  go_ret
  exact ⟨by first | rfl | (simp; done) | (simp [*]; done), by repeat (first | exact Drawn0.refl _ | apply Drawn0.step)⟩

/-! ### impl_portOk: function 43 -/
def impl_portOk.f (a0 : Int) : Option (Bool) := (impl_in.f a0 1 255).bind fun t292 => (some t292)
set_option maxHeartbeats 8000000 in
set_option maxRecDepth 100000 in
theorem impl_portOk.calls (a0 : Int) (r : Bool) (w : World) (h : impl_portOk.f a0 = some r) :
  Calls Try.prog 43 #[.int .i64 a0] w fun e w' => e = .returned (.bool r) ∧ Drawn0 w w' := by
 have H : ((impl_in.f a0 1 255).bind fun t292 => (some t292)) = some r := h
 clear h
 replace H := Option.bind_eq_some_iff.mp H
 obtain ⟨t292, A20, H⟩ := H
 replace H : (some t292) = some r := H
 have A2 := mk_ A20
 clear A20
 obtain rfl := Option.some.inj H
 go_enter Try.func43, Try.ntmps43
 go_wp2_with (first | ((with_reducible refine gate_callee (f := 76) rfl ?_); refine goesL_ (some 4) rfl rfl Try.func76 (by kernel_rfl) rfl #[.int .i64 a0, .int .i64 1, .int .i64 255] rfl (by (try simp only [lm_, lo_, ln_]); try rfl) ?_; (with_reducible refine (impl_in.calls a0 1 255 t292 _ A2.out).mono ?_); rintro e w' ⟨rfl, ⟨nd, rfl⟩⟩; refine ⟨_, rfl, ?_⟩))
 go_ret
 exact ⟨by first | rfl | (simp; done) | (simp [*]; done), by repeat (first | exact Drawn0.refl _ | apply Drawn0.step)⟩

-- impl_Mail_77: see impl.PortsOk

-- impl_Mail_44: see impl.PortsOk

/-! ### impl_word: function 78 -/
def impl_word.f (a0 : Int) : Option (Bool) := (impl_in.f a0 0 65535).bind fun t293 => (some t293)
set_option maxHeartbeats 8000000 in
set_option maxRecDepth 100000 in
theorem impl_word.calls (a0 : Int) (r : Bool) (w : World) (h : impl_word.f a0 = some r) :
  Calls Try.prog 78 #[.int .i64 a0] w fun e w' => e = .returned (.bool r) ∧ Drawn0 w w' := by
 have H : ((impl_in.f a0 0 65535).bind fun t293 => (some t293)) = some r := h
 clear h
 replace H := Option.bind_eq_some_iff.mp H
 obtain ⟨t293, A20, H⟩ := H
 replace H : (some t293) = some r := H
 have A2 := mk_ A20
 clear A20
 obtain rfl := Option.some.inj H
 go_enter Try.func78, Try.ntmps78
 go_wp2_with (first | ((with_reducible refine gate_callee (f := 76) rfl ?_); refine goesL_ (some 4) rfl rfl Try.func76 (by kernel_rfl) rfl #[.int .i64 a0, .int .i64 0, .int .i64 65535] rfl (by (try simp only [lm_, lo_, ln_]); try rfl) ?_; (with_reducible refine (impl_in.calls a0 0 65535 t293 _ A2.out).mono ?_); rintro e w' ⟨rfl, ⟨nd, rfl⟩⟩; refine ⟨_, rfl, ?_⟩))
 go_ret
 exact ⟨by first | rfl | (simp; done) | (simp [*]; done), by repeat (first | exact Drawn0.refl _ | apply Drawn0.step)⟩

/-! ### impl_MailOk: function 46 -/
def impl_MailOk.f (a0_0 : Int) (a0_1 : Int) (a0_2 : Int) (l0_3 : List Int) : Option (Bool) := (impl_word.f a0_0).bind fun t295 => (if t295 = true then ((impl_portOk.f a0_1).bind fun t296 => (if t296 = true then ((impl_portOk.f a0_2).bind fun t297 => (if t297 = true then (some (decide ((l0_3.length : Int) ≤ 40))) else (some false))) else (some false))) else (some false))
set_option maxHeartbeats 8000000 in
set_option maxRecDepth 100000 in
theorem impl_MailOk.calls (a0_0 : Int) (a0_1 : Int) (a0_2 : Int) (A0_3 : Option Addr) (c0_3 : Nat) (l0_3 : List Int) (r : Bool) (w : World) (hr0_3 : Kd.C (Kd.int .u8) w A0_3 l0_3.length l0_3) (hc0_3 : l0_3.length ≤ c0_3) (h : impl_MailOk.f a0_0 a0_1 a0_2 l0_3 = some r) :
  Calls Try.prog 46 #[.agg #[.int .i64 a0_0, .int .i64 a0_1, .int .i64 a0_2, .slice A0_3 l0_3.length c0_3]] w fun e w' => e = .returned (.bool r) ∧ Below w.heap.size w w' := by
 have hu40 := Try.underlying40
 have HR0_3 := mk_ hr0_3
 have HC0_3 := mk_ hc0_3
 clear hr0_3 hc0_3
 have HB := mk_ (Below.refl w.heap.size w)
 have H := h
 unfold impl_MailOk.f at H
 clear h
 replace H := Option.bind_eq_some_iff.mp H
 obtain ⟨t295, A20, H⟩ := H
 (try dsimp only at H)
 have A2 := mk_ A20
 clear A20
 by_cases c3 : t295 = true
 rotate_left
 focus
  replace c3 := Bool.eq_false_iff.mpr c3
  subst c3
  have H1 : (some false) = some r := by rw [if_neg (show ¬ (false = true) by decide)] at H; exact H
  clear H
  have H := H1
  clear H1
  obtain rfl := Option.some.inj H
 rotate_left
 focus
  subst c3
  rw [if_pos rfl] at H
  replace H := Option.bind_eq_some_iff.mp H
  obtain ⟨t296, A40, H⟩ := H
  (try dsimp only at H)
  have A4 := mk_ A40
  clear A40
  by_cases c5 : t296 = true
  rotate_left
  focus
   replace c5 := Bool.eq_false_iff.mpr c5
   subst c5
   have H1 : (some false) = some r := by rw [if_neg (show ¬ (false = true) by decide)] at H; exact H
   clear H
   have H := H1
   clear H1
   obtain rfl := Option.some.inj H
  rotate_left
  focus
   subst c5
   rw [if_pos rfl] at H
   replace H := Option.bind_eq_some_iff.mp H
   obtain ⟨t297, A60, H⟩ := H
   replace H : (if t297 = true then (some (decide ((l0_3.length : Int) ≤ 40))) else (some false)) = some r := H
   have A6 := mk_ A60
   clear A60
   by_cases c7 : t297 = true
   focus
    subst c7
    have H1 : (some (decide ((l0_3.length : Int) ≤ 40))) = some r := by rw [if_pos rfl] at H; exact H
    clear H
    have H := H1
    clear H1
    obtain rfl := Option.some.inj H
   rotate_left
   focus
    replace c7 := Bool.eq_false_iff.mpr c7
    subst c7
    have H1 : (some false) = some r := by rw [if_neg (show ¬ (false = true) by decide)] at H; exact H
    clear H
    have H := H1
    clear H1
    obtain rfl := Option.some.inj H
   rotate_left
  rotate_left 2
 rotate_left 3
 all_goals
  go_enter Try.func46, Try.ntmps46
  go_wp2_with (first | ((with_reducible refine gate_dst (N := 1) rfl ?_); refine box_event ?hg (N := 1) ?hd (cs := #[.int .i64 a0_0, .int .i64 a0_1, .int .i64 a0_2, .slice A0_3 l0_3.length c0_3]) (t := 40) ?hr ?_; (case hd => rfl); (case hg => rfl); (case hr => first | (go_simp; done) | (go_simp; rfl)); intro gb9800 hg w9801 hbox hb; have n0_ := mk_ (below_step (ub_ HB.out) hb); have BK294 := mk_ (hbox); have GW294 := mk_ ((by rw [hg]; exact (below_size (ub_ HB.out)) : w.heap.size ≤ gb9800)); have GE294 := ge_ ((by rw [hg]; exact (below_size (ub_ HB.out)) : w.heap.size ≤ gb9800)); replace HB := n0_; clear n0_; clear hb hbox hg; obtain ⟨hcz2200294_0, hcz2200294_1, hcz2200294_2, hcz2200294_3, hfz2200294_0, hfz2200294_1, hfz2200294_2, hfz2200294_3⟩ := cells4_ BK294.out) | ((with_reducible refine gate_callee (f := 78) rfl ?_); refine goesL_ (some 5) rfl rfl Try.func78 (by kernel_rfl) rfl #[.int .i64 a0_0] rfl (by (try simp only [lm_, lo_, ln_]); try rfl) ?_; (with_reducible refine (impl_word.calls a0_0 false _ A2.out).mono ?_); rintro e w' ⟨rfl, ⟨nd, rfl⟩⟩; refine ⟨_, rfl, ?_⟩) | ((with_reducible refine gate_callee (f := 78) rfl ?_); refine goesL_ (some 5) rfl rfl Try.func78 (by kernel_rfl) rfl #[.int .i64 a0_0] rfl (by (try simp only [lm_, lo_, ln_]); try rfl) ?_; (with_reducible refine (impl_word.calls a0_0 true _ A2.out).mono ?_); rintro e w' ⟨rfl, ⟨nd, rfl⟩⟩; refine ⟨_, rfl, ?_⟩) | (go_at_call 43; (with_reducible refine (impl_portOk.calls a0_1 false _ A4.out).mono ?_); rintro e w' ⟨rfl, ⟨nd, rfl⟩⟩) | (go_at_call 43; have hA_ := A4.out; (with_reducible refine (impl_portOk.calls a0_1 true _ A4.out).mono ?_); rintro e w' ⟨rfl, ⟨nd, rfl⟩⟩; clear hA_ A4) | (go_at_call 43; have hA_ := A6.out; (with_reducible refine (impl_portOk.calls a0_2 true _ A6.out).mono ?_); rintro e w' ⟨rfl, ⟨nd, rfl⟩⟩; clear hA_ A6) | (go_at_call 43; have hA_ := A6.out; (with_reducible refine (impl_portOk.calls a0_2 false _ A6.out).mono ?_); rintro e w' ⟨rfl, ⟨nd, rfl⟩⟩; clear hA_ A6))
  go_ret
  exact ⟨by first | rfl | (simp [errW_none, errW_some] <;> rfl) | (simp [*, errW_none, errW_some] <;> rfl), us_ HB.out⟩

-- impl_PortsOk_1: see impl.PortsOk

/-! ### impl_PortsOk: function 14 -/
/-- Is a message none, or one to another port? -/
def impl_PortsOk.bad (N : Int) (x : S40) : Option Bool := (impl_MailOk.f x.f0 x.f1 x.f2 x.f3).bind fun t => some (!t || x.f2 != N)
def impl_PortsOk.row (N : Int) : List S40 → Option Bool
  | [] => some false
  | x :: l => (impl_PortsOk.bad N x).bind fun t => if t = true then some true else impl_PortsOk.row N l
theorem impl_PortsOk.row_step (N : Int) (l : List S40) (q : Nat) (h : q < l.length) : impl_PortsOk.row N (l.drop q) = (impl_PortsOk.bad N (rd_T40 l (q : Int))).bind fun t => if t = true then some true else impl_PortsOk.row N (l.drop (q + 1)) := by
  rw [List.drop_eq_getElem_cons h]
  have e : rd_T40 l (q : Int) = l[q] := by simp [rd_T40, List.getD_eq_getElem?_getD, List.getElem?_eq_getElem h]
  rw [e]
  rfl
set_option maxHeartbeats 1000000 in
set_option maxRecDepth 100000 in
theorem impl_PortsOk.closure (N a f t : Int) (A1 : Option Addr) (c1 B : Nat) (l : List Int) (r : Bool) (w : World) (hr : (Kd.int .u8).C w A1 l.length l) (hc : l.length ≤ c1) (hB : w.cell? ⟨B, 0, none⟩ = some (.int .i64 N)) (h : impl_MailOk.f a f t l = some r) :
    Calls Try.prog 45 #[.agg #[.int .i64 a, .int .i64 f, .int .i64 t, .slice A1 l.length c1], .pointer (some ⟨B, 0, none⟩)] w fun e w' => e = .returned (.bool (!r || t != N)) ∧ Below w.heap.size w w' := by
  have HR := mk_ hr
  have HC := mk_ hc
  have HB0 := mk_ hB
  have HH := mk_ h
  clear hr hc hB h
  cases r
  all_goals
    go_enter Try.func45, Try.ntmps45
    go_wp2_with (first | ((with_reducible refine gate_dst (N := 2) rfl ?_); refine box_event ?hg (N := 2) ?hd (cs := #[.int .i64 a, .int .i64 f, .int .i64 t, .slice A1 l.length c1]) (t := 40) ?hr ?_; (case hd => rfl); (case hg => rfl); (case hr => first | (go_simp; done) | (go_simp; rfl)); intro gb hg w2 hbox hb; have hc0 := (blk_cell hbox 0).trans rfl; have hc1 := (blk_cell hbox 1).trans rfl; have hc2 := (blk_cell hbox 2).trans rfl; have hc3 := (blk_cell hbox 3).trans rfl; have HBX := mk_ hbox; have HBL := mk_ hb; clear hb hbox hg) | (go_at_call 46; (with_reducible refine (impl_MailOk.calls a f t _ _ l _ _ ?side1 ?side2 HH.out).mono ?_); (case side1 => exact Kd.C_below HR.out HBL.out); (case side2 => exact HC.out); rintro e w1 ⟨rfl, hb⟩; have hbx := blk_below HBX.out hb; have k2 := (blk_cell hbx 2).trans rfl; have k3 := ((below_step HBL.out hb).cell (lc_ w _ HB0.out)).trans HB0.out; have HB1 := mk_ (below_step HBL.out hb); clear hb hbx))
    go_ret
    exact ⟨rfl, HB1.out⟩
set_option maxHeartbeats 1000000 in
set_option maxRecDepth 100000 in
theorem impl_PortsOk.index (N : Int) (B : Nat) (A0 : Option Addr) (c0 : Nat) (l0 : List S40) (r : Bool) (w : World) (hr0 : Kd.C k40 w A0 l0.length l0) (hc0 : l0.length ≤ c0) (hB : w.cell? ⟨B, 0, none⟩ = some (.int .i64 N)) (h : impl_PortsOk.row N l0 = some r) :
    Calls Try.prog 77 #[.slice A0 l0.length c0, .func (.func 45) #[] #[.pointer (some ⟨B, 0, none⟩)]] w fun e w' => (∃ v : Int, e = .returned (.int .i64 v) ∧ decide (0 ≤ v) = r) ∧ Below w.heap.size w w' := by
  have hlen : l0.length ≤ 9223372036854775807 := hr0.2.1
  have HR := mk_ hr0
  have HH := mk_ h
  have HBB := mk_ hB
  clear hr0 hc0 h hB
  go_enter Try.func77, Try.ntmps77
  go_wp2
  go_loopw [8] (fun i wr => ∃ q : Nat, q ≤ l0.length ∧ i = .int .i64 q ∧ Aside0 (impl_PortsOk.row N (l0.drop q) = some r) ∧ Aside0 (Below w.heap.size w wr)) (fun i _ => l0.length - (intOf i).toNat)
  case atStart => exact ⟨0, Nat.zero_le _, rfl, HH, ⟨Below.refl _ _⟩⟩
  case round =>
    obtain ⟨q, hq, rfl, H2, HB⟩ := hrel
    by_cases hlt : q < l0.length
    · have H := H2.out
      rw [impl_PortsOk.row_step N l0 q hlt] at H
      obtain ⟨t, ht, H⟩ := Option.bind_eq_some_iff.mp H
      obtain ⟨u, hu, ht⟩ := Option.bind_eq_some_iff.mp ht
      have HT := mk_ (Option.some.inj ht)
      have HU := mk_ hu
      have H3 := mk_ H
      obtain ⟨ad, A3, c3, e, hx0, hx1, hx2, hx3, hx4, hx5⟩ := at_T40 HR.out (q : Int) (by omega) (by omega)
      cases e
      replace hx0 := (HB.out.cell (lc_ w _ hx0)).trans hx0
      replace hx1 := (HB.out.cell (lc_ w _ hx1)).trans hx1
      replace hx2 := (HB.out.cell (lc_ w _ hx2)).trans hx2
      replace hx3 := (HB.out.cell (lc_ w _ hx3)).trans hx3
      have HX4 := mk_ hx4
      have HX5 := mk_ (Kd.C_below hx5 HB.out)
      have HC := mk_ ((HB.out.cell (lc_ w _ HBB.out)).trans HBB.out)
      rw [Int.toNat_natCast] at hx0 hx1 hx2 hx3
      clear ht hu H H2 hx4 hx5
      cases t with
      | true =>
        go_wp2_with (go_at_call 45; (with_reducible refine (impl_PortsOk.closure N _ _ _ _ _ B _ u _ HX5.out HX4.out HC.out HU.out).mono ?_); rw [HT.out]; rintro e w1 ⟨rfl, hb⟩; have HB1 := mk_ hb; clear hb)
        go_ret
        have e1 : true = r := Option.some.inj H3.out
        exact ⟨⟨_, rfl, by rw [← e1]; exact decide_eq_true (by omega)⟩, below_step HB.out HB1.out⟩
      | false =>
        go_wp2_with (go_at_call 45; (with_reducible refine (impl_PortsOk.closure N _ _ _ _ _ B _ u _ HX5.out HX4.out HC.out HU.out).mono ?_); rw [HT.out]; rintro e w1 ⟨rfl, hb⟩; have HB1 := mk_ hb; clear hb)
        go_roundw
        case rel => exact ⟨q + 1, by omega, by go_num, ⟨by simpa using H3.out⟩, ⟨below_step HB.out HB1.out⟩⟩
        case measure => simp [intOf]; omega
    · obtain rfl : q = l0.length := by omega
      have H := H2.out
      rw [List.drop_length] at H
      obtain rfl : false = r := Option.some.inj H
      go_wp2
      go_ret
      exact ⟨⟨_, rfl, rfl⟩, HB.out⟩
set_option maxHeartbeats 400000 in
set_option maxRecDepth 100000 in
theorem impl_PortsOk.contains (N : Int) (B : Nat) (A0 : Option Addr) (c0 : Nat) (l0 : List S40) (r : Bool) (w : World) (hr0 : Kd.C k40 w A0 l0.length l0) (hc0 : l0.length ≤ c0) (hB : w.cell? ⟨B, 0, none⟩ = some (.int .i64 N)) (h : impl_PortsOk.row N l0 = some r) :
    Calls Try.prog 44 #[.slice A0 l0.length c0, .func (.func 45) #[] #[.pointer (some ⟨B, 0, none⟩)]] w fun e w' => e = .returned (.bool r) ∧ Below w.heap.size w w' := by
  have HR := mk_ hr0
  have HC := mk_ hc0
  have HH := mk_ h
  have HBB := mk_ hB
  clear hr0 hc0 h hB
  go_enter Try.func44, Try.ntmps44
  go_wp2_with (go_at_call 77; refine (impl_PortsOk.index N B _ _ l0 _ _ HR.out HC.out HBB.out HH.out).mono ?_; rintro e w1 ⟨⟨v, rfl, hv⟩, hb⟩; have HB1 := mk_ hb; clear hb)
  go_ret
  exact ⟨by subst hv; first | rfl | (simp; done) | (simp; rfl), HB1.out⟩
theorem impl_PortsOk.skip {P : Program} {ops : Array Oper} {w : World} {Q : Act → Prop} {a : Act} {o : Oper} {rest : List Oper} (h : Region.wanted o (yielded ops a.tmps) = false) : wpStill P ops w Q (o :: rest) a = wpStill P ops w Q rest (a.put o.dst undef) := by
  rw [wpStill]
  simp [h]
theorem impl_PortsOk.prev {a b d : Nat} (h : a - b = d + 1) : a - (b + 1) = d := by omega
theorem impl_PortsOk.in_same (a b c : Int) (w : World) : Calls Try.prog 76 #[.int .i64 a, .int .i64 b, .int .i64 c] w fun e w' => e = .returned (.bool (decide (b ≤ a) && decide (a ≤ c))) ∧ w = w' := by
  by_cases h : b ≤ a
  · have h1 : decide (b ≤ a) = true := decide_eq_true h
    rw [h1]
    clear h
    go_enter Try.func76, Try.ntmps76
    go_wp2
    go_ret
    exact ⟨rfl, rfl⟩
  · have h1 : decide (b ≤ a) = false := decide_eq_false h
    rw [h1]
    clear h
    go_enter Try.func76, Try.ntmps76
    go_wp2
    go_ret
    exact ⟨rfl, rfl⟩
def impl_PortsOk.num (a : Int) : Bool := decide (1 ≤ a) && decide (a ≤ 255)
theorem impl_PortsOk.num_same (a : Int) (w : World) : Calls Try.prog 43 #[.int .i64 a] w fun e w' => e = .returned (.bool (impl_PortsOk.num a)) ∧ w = w' := by
  go_enter Try.func43, Try.ntmps43
  go_wp2_with (go_at_call 76; refine (impl_PortsOk.in_same _ _ _ _).mono ?_; rintro e w' ⟨rfl, rfl⟩)
  go_ret
  exact ⟨rfl, rfl⟩
/-- From a place on, so many ports left. -/
def impl_PortsOk.at_ (l : List S47) : Nat → Nat → Option Bool
  | 0, _ => some (decide (l.length ≤ 4))
  | d + 1, i => if impl_PortsOk.num (rd_T47 l (i : Int)).f0 = false then some false else if 0 < i ∧ (rd_T47 l ((i : Int) - 1)).f0 ≥ (rd_T47 l (i : Int)).f0 then some false else if 3 < (rd_T47 l (i : Int)).f1.length then some false else
    (impl_PortsOk.row (rd_T47 l (i : Int)).f0 (rd_T47 l (i : Int)).f1).bind fun t => if t = true then some false else impl_PortsOk.at_ l d (i + 1)
def impl_PortsOk.f (l0 : List S47) : Option Bool := impl_PortsOk.at_ l0 l0.length 0
/-- What a walk over the test knows: what a port's cells say, and that of the one ahead. -/
theorem impl_PortsOk.box (wr w2 : World) (gb : Nat) (N : Int) (A1 : Option Addr) (n c1 : Nat) (w : World) (hB : Below w.heap.size w wr) (hb : Below wr.heap.size wr w2) (hg : gb = wr.heap.size) (hbox : w2.heap[gb]? = some (.cells #[.int .i64 0, .slice none 0 0] 47 (0, 0))) :
    ((w2.setCell ⟨gb, 0, none⟩ (.int .i64 N)).setCell ⟨gb, 1, none⟩ (.slice A1 n c1)).heap[gb]? = some (.cells #[.int .i64 N, .slice A1 n c1] 47 (0, 0)) ∧ Below w.heap.size w ((w2.setCell ⟨gb, 0, none⟩ (.int .i64 N)).setCell ⟨gb, 1, none⟩ (.slice A1 n c1)) := by
  refine ⟨blk_put (cs := #[.int .i64 N, .slice none 0 0]) (blk_put (cs := #[.int .i64 0, .slice none 0 0]) hbox 0 _ rfl) 1 _ rfl, ?_⟩
  have := hB.size
  exact bs_ (bs_ (below_step hB hb) (by omega)) (by omega)
set_option maxHeartbeats 4000000 in
set_option maxRecDepth 100000 in
theorem impl_PortsOk.calls (A0 : Option Addr) (c0 : Nat) (l0 : List S47) (r : Bool) (w : World) (hr0 : Kd.C k47 w A0 l0.length l0) (hc0 : l0.length ≤ c0) (h : impl_PortsOk.f l0 = some r) :
    Calls Try.prog 14 #[.slice A0 l0.length c0] w fun e w' => e = .returned (.bool r) ∧ Below w.heap.size w w' := by
 have hlen : l0.length ≤ 9223372036854775807 := hr0.2.1
 have hmf : ∀ (fn : Fn) (first cap : Array Value) (w : World), (Instr.makeFunc fn first cap).run Try.prog w = .ok (.func fn first cap) w := fun _ _ _ _ => rfl
 have hu := Try.underlying47
 have HR := mk_ hr0
 have HH := mk_ h
 clear hr0 hc0 h
 go_enter Try.func14, Try.ntmps14
 go_wp2
 go_loopw [7] (fun i wr => ∃ q : Nat, q ≤ l0.length ∧ i = .int .i64 q ∧ Aside0 (impl_PortsOk.at_ l0 (l0.length - q) q = some r) ∧ Aside0 (Below w.heap.size w wr)) (fun i _ => l0.length - (intOf i).toNat)
 case atStart => exact ⟨0, Nat.zero_le _, rfl, HH, ⟨Below.refl _ _⟩⟩
 case round =>
  obtain ⟨q, hq, rfl, H2, HB⟩ := hrel
  by_cases hlt : q < l0.length
  ·have H := H2.out
   obtain ⟨d, hd⟩ : ∃ d, l0.length - q = d + 1 := ⟨l0.length - q - 1, by omega⟩
   rw [hd, impl_PortsOk.at_] at H
   have HD := mk_ hd
   clear hd H2
   obtain ⟨ad, A1, c1, e, hx0, hx1, hx2, hx3⟩ := at_T47 HR.out (q : Int) (by omega) (by omega)
   cases e
   replace hx0 := (HB.out.cell (lc_ w _ hx0)).trans hx0
   replace hx1 := (HB.out.cell (lc_ w _ hx1)).trans hx1
   rw [Int.toNat_natCast] at hx0 hx1
   have HX2 := mk_ hx2
   have HX3 := mk_ hx3
   clear hx2 hx3
   obtain ⟨N, hN⟩ : ∃ N, (rd_T47 l0 (q : Int)).f0 = N := ⟨_, rfl⟩
   obtain ⟨L, hL⟩ : ∃ L, (rd_T47 l0 (q : Int)).f1 = L := ⟨_, rfl⟩
   rw [hN, hL] at H
   rw [hN] at hx0
   rw [hL] at hx1 HX2 HX3
   have HN := mk_ hN
   have HL := mk_ hL
   have HH := mk_ H
   clear hN hL H
   go_wp2_with (first | ((with_reducible refine gate_dst (N := 4) rfl ?_); refine box_event ?hg (N := 4) ?hd (cs := #[.int .i64 0, .slice none 0 0]) (t := 47) ?hr ?_; (case hd => rfl); (case hg => rfl); (case hr => first | (go_simp; done) | (go_simp; rfl)); intro gb hg w2 hbox hb; obtain ⟨hc0, hc1, hf0, hf1⟩ := cells2_ hbox; have HBX := mk_ hbox; have HBL := mk_ hb; have HG := mk_ hg; clear hb hbox hg))
   have hbx := impl_PortsOk.box wr w2 gb N A1 L.length c1 w HB.out HBL.out HG.out HBX.out
   clear hc0 hc1 hf0 hf1
   generalize ((w2.setCell ⟨gb, 0, none⟩ (.int .i64 N)).setCell ⟨gb, 1, none⟩ (.slice A1 L.length c1)) = W at hbx ⊢
   obtain ⟨hbW, hBW⟩ := hbx
   have k0 := (blk_cell hbW 0).trans rfl
   have k1 := (blk_cell hbW 1).trans rfl
   have HBW := mk_ hBW
   have HbW := mk_ hbW
   clear hx0 hx1 hbW hBW
   obtain ⟨j, hj⟩ : ∃ j : Int, (q : Int) - 1 = j := ⟨_, rfl⟩
   have iw : IntKind.i64.wrap ((q : Int) - 1) = j := (IntWalk.i64_in _ (by omega)).trans hj
   rw [hj] at HH
   have HJ := mk_ hj
   clear hj
   by_cases g1 : impl_PortsOk.num N = false
   ·have H := HH.out
    rw [if_pos g1] at H
    obtain rfl := Option.some.inj H
    clear H
    go_quiet ((go_at_call 43; exact Calls.quiet_of_same ((impl_PortsOk.num_same N _).mono fun e w' h => ⟨h.1, h.2.symm⟩)))
    go_wp2
    go_ret
    exact ⟨rfl, nn_ HBW.out _⟩
   ·replace g1 : impl_PortsOk.num N = true := by simpa using g1
    have H := HH.out
    rw [if_neg (by simp [g1])] at H
    by_cases g2 : 0 < q ∧ (rd_T47 l0 j).f0 ≥ N
    ·rw [if_pos g2] at H
     obtain rfl := Option.some.inj H
     clear H
     obtain ⟨g2, g3⟩ := g2
     obtain ⟨ad', A2, c2, e, hx0, _, _, _⟩ := at_T47 HR.out j (by have := HJ.out; omega) (by have := HJ.out; omega)
     cases e
     replace hx0 := (HBW.out.cell (lc_ w _ hx0)).trans hx0
     have b0 : decide (0 < q) = true := decide_eq_true g2
     have b1 : decide ((0 : Int) < (q : Int)) = true := decide_eq_true (by omega)
     have b2 : (0 : Int) ≤ j := by have := HJ.out; omega
     have b3 : j < (l0.length : Int) := by have := HJ.out; omega
     have b4 : decide (N ≤ (rd_T47 l0 j).f0) = true := decide_eq_true g3
     clear g2 g3
     go_quiet ((go_at_call 43; exact Calls.quiet_of_same ((impl_PortsOk.num_same N _).mono fun e w' h => ⟨h.1, h.2.symm⟩)))
     go_wp2
     go_ret
     exact ⟨rfl, nn_ HBW.out _⟩
    ·rw [if_neg g2] at H
     have HH := mk_ H
     clear H
     by_cases g4 : 0 < q
     ·have g3 : ¬ (rd_T47 l0 j).f0 ≥ N := fun h => g2 ⟨g4, h⟩
      obtain ⟨ad', A2, c2, e, hx0, _, _, _⟩ := at_T47 HR.out j (by have := HJ.out; omega) (by have := HJ.out; omega)
      cases e
      replace hx0 := (HBW.out.cell (lc_ w _ hx0)).trans hx0
      have b0 : decide (0 < q) = true := decide_eq_true g4
      have b1 : decide ((0 : Int) < (q : Int)) = true := decide_eq_true (by omega)
      have b2 : (0 : Int) ≤ j := by have := HJ.out; omega
      have b3 : j < (l0.length : Int) := by have := HJ.out; omega
      have b4 : decide (N ≤ (rd_T47 l0 j).f0) = false := decide_eq_false g3
      clear g2 g3 g4
      by_cases g5 : 3 < L.length
      ·have H := HH.out
       rw [if_pos g5] at H
       obtain rfl := Option.some.inj H
       clear H
       have b5 : decide ((3 : Int) < (L.length : Int)) = true := decide_eq_true (by omega)
       have b6 : decide (3 < L.length) = true := decide_eq_true g5
       clear g5
       go_quiet ((go_at_call 43; exact Calls.quiet_of_same ((impl_PortsOk.num_same N _).mono fun e w' h => ⟨h.1, h.2.symm⟩)))
       go_wp2
       go_ret
       exact ⟨rfl, nn_ HBW.out _⟩
      ·have H := HH.out
       rw [if_neg g5] at H
       obtain ⟨t, ht, H⟩ := Option.bind_eq_some_iff.mp H
       have HT := mk_ ht
       have H3 := mk_ H
       clear ht H
       have b5 : decide ((3 : Int) < (L.length : Int)) = false := decide_eq_false (by omega)
       have b6 : decide (3 < L.length) = false := decide_eq_false g5
       clear g5
       refine wp_region_still_tail 29 (by kernel_rfl) (by kernel_rfl) ?_
       simp only [List.take_succ_cons, List.take_zero, List.drop_succ_cons, List.drop_zero]
       change wpStill _ _ W.drew _ _ _
       still_step
       still_step
       still_call ((impl_PortsOk.num_same N _).mono fun e w' h => ⟨h.1, h.2.symm⟩)
       repeat still_step
       refine wpStill_nil ?_
       change wpList _ _ _ _ _ W.drew
       have HbD := mk_ (bw_ HbW.out)
       have HBD := mk_ (nw_ HBW.out)
       generalize W.drew = w3 at HbD HBD ⊢
       clear k0 k1 HbW HBW iw
       have hq1 : q + 1 ≤ l0.length := hlt
       cases t with
       | true =>
        go_wp2_with (go_at_call 44; (with_reducible refine (impl_PortsOk.contains N gb _ _ L true _ ?side1 ?side2 ?side3 HT.out).mono ?_); (case side1 => exact Kd.C_below HX3.out HBD.out); (case side2 => exact HX2.out); (case side3 => exact (blk_cell HbD.out 0).trans rfl); rintro e w4 ⟨rfl, hb⟩; have HB4 := mk_ (below_step HBD.out hb); clear hb)
        go_ret
        obtain rfl : false = r := Option.some.inj H3.out
        exact ⟨rfl, HB4.out⟩
       | false =>
        have H4 : Aside0 (impl_PortsOk.at_ l0 (l0.length - (q + 1)) (q + 1) = some r) := ⟨by
          have hd := HD.out
          rw [impl_PortsOk.prev hd]
          exact H3.out⟩
        go_wp2_with (go_at_call 44; (with_reducible refine (impl_PortsOk.contains N gb _ _ L false _ ?side1 ?side2 ?side3 HT.out).mono ?_); (case side1 => exact Kd.C_below HX3.out HBD.out); (case side2 => exact HX2.out); (case side3 => exact (blk_cell HbD.out 0).trans rfl); rintro e w4 ⟨rfl, hb⟩; have HB4 := mk_ (below_step HBD.out hb); clear hb)
        go_roundw
        case rel => exact ⟨q + 1, hq1, by go_num, H4, ⟨HB4.out⟩⟩
        case measure => simp [intOf]; omega
     ·have b0 : decide (0 < q) = false := decide_eq_false g4
      have b1 : decide ((0 : Int) < (q : Int)) = false := decide_eq_false (by omega)
      clear g2 g4
      by_cases g5 : 3 < L.length
      ·have H := HH.out
       rw [if_pos g5] at H
       obtain rfl := Option.some.inj H
       clear H
       have b5 : decide ((3 : Int) < (L.length : Int)) = true := decide_eq_true (by omega)
       have b6 : decide (3 < L.length) = true := decide_eq_true g5
       clear g5
       go_quiet ((go_at_call 43; exact Calls.quiet_of_same ((impl_PortsOk.num_same N _).mono fun e w' h => ⟨h.1, h.2.symm⟩)))
       go_wp2
       go_ret
       exact ⟨rfl, nn_ HBW.out _⟩
      ·have H := HH.out
       rw [if_neg g5] at H
       obtain ⟨t, ht, H⟩ := Option.bind_eq_some_iff.mp H
       have HT := mk_ ht
       have H3 := mk_ H
       clear ht H
       have b5 : decide ((3 : Int) < (L.length : Int)) = false := decide_eq_false (by omega)
       have b6 : decide (3 < L.length) = false := decide_eq_false g5
       clear g5
       refine wp_region_still_tail 29 (by kernel_rfl) (by kernel_rfl) ?_
       simp only [List.take_succ_cons, List.take_zero, List.drop_succ_cons, List.drop_zero]
       change wpStill _ _ W.drew _ _ _
       still_step
       still_step
       still_call ((impl_PortsOk.num_same N _).mono fun e w' h => ⟨h.1, h.2.symm⟩)
       iterate 5 still_step
       (try simp only [b0])
       have B0 := mk_ b0
       clear b0
       iterate 9 (rw [impl_PortsOk.skip (by go_simp)]; simp only [Act.put, la_, lz_, ls_])
       repeat still_step
       refine wpStill_nil ?_
       change wpList _ _ _ _ _ W.drew
       have HbD := mk_ (bw_ HbW.out)
       have HBD := mk_ (nw_ HBW.out)
       generalize W.drew = w3 at HbD HBD ⊢
       clear k0 k1 HbW HBW iw
       have hq1 : q + 1 ≤ l0.length := hlt
       cases t with
       | true =>
        go_wp2_with (go_at_call 44; (with_reducible refine (impl_PortsOk.contains N gb _ _ L true _ ?side1 ?side2 ?side3 HT.out).mono ?_); (case side1 => exact Kd.C_below HX3.out HBD.out); (case side2 => exact HX2.out); (case side3 => exact (blk_cell HbD.out 0).trans rfl); rintro e w4 ⟨rfl, hb⟩; have HB4 := mk_ (below_step HBD.out hb); clear hb)
        go_ret
        obtain rfl : false = r := Option.some.inj H3.out
        exact ⟨rfl, HB4.out⟩
       | false =>
        have H4 : Aside0 (impl_PortsOk.at_ l0 (l0.length - (q + 1)) (q + 1) = some r) := ⟨by
          have hd := HD.out
          rw [impl_PortsOk.prev hd]
          exact H3.out⟩
        go_wp2_with (go_at_call 44; (with_reducible refine (impl_PortsOk.contains N gb _ _ L false _ ?side1 ?side2 ?side3 HT.out).mono ?_); (case side1 => exact Kd.C_below HX3.out HBD.out); (case side2 => exact HX2.out); (case side3 => exact (blk_cell HbD.out 0).trans rfl); rintro e w4 ⟨rfl, hb⟩; have HB4 := mk_ (below_step HBD.out hb); clear hb)
        go_roundw
        case rel => exact ⟨q + 1, hq1, by go_num, H4, ⟨HB4.out⟩⟩
        case measure => simp [intOf]; omega
  ·obtain rfl : q = l0.length := by omega
   have H := H2.out
   rw [Nat.sub_self, impl_PortsOk.at_] at H
   obtain rfl := Option.some.inj H
   clear H2 H
   go_wp2
   go_ret
   exact ⟨by first | rfl | (simp; done) | (simp; omega), HB.out⟩

/-! ### slices_Clip_byte_byte: function 93 -/
set_option maxHeartbeats 400000 in
set_option maxRecDepth 100000 in
theorem slices_Clip_byte_byte.calls (A : Option Addr) (n c : Nat) (w : World) (h : n ≤ c) (hn : n ≤ 9223372036854775807) :
    Calls Try.prog 93 #[.slice A n c] w fun e w' => e = .returned (.slice A n n) ∧ Drawn0 w w' := by
  obtain ⟨i0, hi0, _, hsz, _⟩ := info_parts info5
  have hcut : ∀ w : World, (Instr.slice 29 (.slice A n c) none (some (.int .i64 n)) (some (.int .i64 n))).run Try.prog w = .ok (.slice A n n) w := by
    intro w
    go_simp
  go_enter Try.func93, Try.ntmps93
  go_wp2
  go_ret
  exact ⟨rfl, Drawn0.refl _⟩

/-! ### impl_clone_byte: function 71 -/
def impl_clone_byte.f (l0 : List Int) : Option (List Int) := if l0.length < 140737488355328 then some l0 else none
set_option maxHeartbeats 400000 in
set_option maxRecDepth 100000 in
theorem impl_clone_byte.calls (A0 : Option Addr) (c0 : Nat) (l0 : List Int) (r : List Int) (w : World) (hr0 : Kd.C (Kd.int .u8) w A0 l0.length l0) (hc0 : l0.length ≤ c0) (h : impl_clone_byte.f l0 = some r) :
    Calls Try.prog 71 #[.slice A0 l0.length c0] w fun e w' => ∃ v0_ : Value, e = .returned (v0_) ∧ Kd.R (Kd.int .u8) 5 w' w.heap.size (fun _ => True) v0_ r ∧ Below w.heap.size w w' := by
 have hlim : l0.length < 140737488355328 := by
   unfold impl_clone_byte.f at h
   by_cases hl : l0.length < 140737488355328
   · exact hl
   · rw [if_neg hl] at h; cases h
 obtain rfl : l0 = r := by
   unfold impl_clone_byte.f at h
   rw [if_pos hlim] at h
   exact Option.some.inj h
 clear h
 have HR := Aside0.mk hr0
 have HL := Aside0.mk hlim
 have HI := Aside0.mk info5
 clear hr0 hc0 hlim
 by_cases hz : l0.length = 0
 ·have hz1 : ((l0.length : Int) == 0) = true := by simpa using hz
  have HZ := Aside0.mk hz
  clear hz
  go_enter Try.func71, Try.ntmps71
  go_wp2_with fail
  go_ret
  refine ⟨_, rfl, ?_, Below.refl _ _⟩
  rw [List.eq_nil_of_length_eq_zero HZ.out]
  exact Kd.R_nil _ _ _ _ _
 ·have hz1 : ((l0.length : Int) == 0) = false := by simpa using hz
  clear hz
  go_enter Try.func71, Try.ntmps71
  go_wp2_with (first | (at_builtin; refine Kd.R_append_rows (Kd.int .u8) (w0 := w) w.heap.size rfl (.const (.slice none 0 0)) (.tmp 6) 29 5 (.int .u8 0) 1 rfl Try.underlying29 HI.out rfl (by decide) (by omega) (.slice none 0 0) ([] : List Int) l0 _ _ _ (fun _ => True) (fun _ => False) rfl rfl ?aO ?aR (fun _ _ h => h) (fun _ h => h.elim) ?aF ?aB ?aS ?aL ?_; (case aO => exact Kd.R_nil _ _ _ _ _); (case aR => exact HR.out); (case aF => exact fun _ _ => trivial); (case aB => exact Below.refl _ _); (case aS => exact Nat.le_refl _); (case aL => have := HL.out; simp; omega); intro v1 w1 ho hb hg hat; rw [List.nil_append] at ho; obtain ⟨A1, c1, hv1, hl1, hc1⟩ := Kd.R_reads ho; subst hv1; have HO := Aside0.mk ho; have HB := Aside0.mk hb; have hn1 := hc1.2.1; clear ho hb hg hat hc1) | (go_at_call 93; (with_reducible refine (slices_Clip_byte_byte.calls _ _ _ _ hl1 hn1).mono ?_); rintro e w' ⟨rfl, ⟨nd, rfl⟩⟩))
  go_ret
  exact ⟨_, rfl, Kd.R_clip (by exact HO.out) rfl, by (first | exact HB.out | exact pw_below_drewN HB.out _)⟩

end Go.Proofs.Ytkkibccnpkbbjaa.MFnExactPortHear
