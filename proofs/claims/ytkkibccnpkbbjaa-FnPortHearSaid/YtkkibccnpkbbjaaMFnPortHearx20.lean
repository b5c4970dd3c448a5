/- Functions that the law FnPortHear reaches, typed by hand (part 1 of 3): what the program's and the reference's ports' functions do, and the walk of the law; no conditions but those that each theorem states. -/
import Derived.Test.YtkkibccnpkbbjaaMFnPortHearx19
import Derived.StillTailTactics
import Derived.IntWalk
import Derived.Deep.RegionHeld3
import Derived.Shelf.Spec.SlicesInsertGrow
import Derived.Deep.QuietTactic
import Derived.BigQuiet
import Derived.Deep.RegionLaw
namespace Go.Proofs.Ytkkibccnpkbbjaa.MFnPortsOk
open Go.RowKit Go.Proofs.YtkkibccnpkbbjaaV.PrintWords Go.Proofs.YtkkibccnpkbbjaaV.PrintLast Go.Proofs.YtkkibccnpkbbjaaV.PrintMore
attribute [local go_sem] max2_int min2_int max_two min_two max_three min_three max_four min_four
set_option linter.unusedVariables false
set_option linter.unusedSimpArgs false
/-! ### impl_PacketOk: function 67 -/
def impl_PacketOk.f (a0_0 : Int) (a0_1 : Int) (a0_2 : Int) (a0_3 : Int) (a0_4 : Int) (a0_5 : Int) (a0_6 : Bool) (a0_7 : Bool) (l0_8 : List Int) : Option (Bool) := (impl_word.f a0_0).bind fun t309 => (if t309 = true then ((impl_word.f a0_1).bind fun t310 => (if t310 = true then ((impl_in.f a0_2 0 255).bind fun t311 => (if t311 = true then ((impl_in.f a0_3 0 255).bind fun t312 => (if t312 = true then ((impl_in.f a0_4 0 255).bind fun t313 => (if t313 = true then ((impl_in.f a0_5 0 255).bind fun t314 => (if t314 = true then (if (l0_8.length : Int) ≤ 48 then (if a0_6 = true then (if (l0_8.length : Int) > 0 then (if a0_7 = true then (if a0_5 = 0 then (some (!a0_6)) else (some false)) else (some true)) else (some false)) else (if a0_7 = true then (if a0_5 = 0 then (some (!a0_6)) else (some false)) else (some true))) else (some false)) else (some false))) else (some false))) else (some false))) else (some false))) else (some false))) else (some false))
set_option maxHeartbeats 8000000 in
set_option maxRecDepth 100000 in
theorem impl_PacketOk.calls (a0_0 : Int) (a0_1 : Int) (a0_2 : Int) (a0_3 : Int) (a0_4 : Int) (a0_5 : Int) (a0_6 : Bool) (a0_7 : Bool) (A0_8 : Option Addr) (c0_8 : Nat) (l0_8 : List Int) (r : Bool) (w : World) (hr0_8 : Kd.C (Kd.int .u8) w A0_8 l0_8.length l0_8) (hc0_8 : l0_8.length ≤ c0_8) (h : impl_PacketOk.f a0_0 a0_1 a0_2 a0_3 a0_4 a0_5 a0_6 a0_7 l0_8 = some r) :
  Calls Try.prog 67 #[.agg #[.int .i64 a0_0, .int .i64 a0_1, .int .i64 a0_2, .int .i64 a0_3, .int .i64 a0_4, .int .i64 a0_5, .bool a0_6, .bool a0_7, .slice A0_8 l0_8.length c0_8]] w fun e w' => e = .returned (.bool r) ∧ Below w.heap.size w w' := by
 have hu52 := Try.underlying52
 have HR0_8 := mk_ hr0_8
 have HC0_8 := mk_ hc0_8
 clear hr0_8 hc0_8
 have HB := mk_ (Below.refl w.heap.size w)
 have H := h
 unfold impl_PacketOk.f at H
 clear h
 replace H := Option.bind_eq_some_iff.mp H
 obtain ⟨t309, A20, H⟩ := H
 (try dsimp only at H)
 have A2 := mk_ A20
 clear A20
 by_cases c3 : t309 = true
 rotate_left
 focus
  replace c3 := Bool.eq_false_iff.mpr c3
  subst c3
  have H1 : (some false) = some r := by rw [if_neg (show ¬ (false = true) by decide)] at H; exact H
  clear H
  have H := H1
  clear H1
  obtain rfl := Option.some.inj H
 rotate_left
 focus
  subst c3
  rw [if_pos rfl] at H
  replace H := Option.bind_eq_some_iff.mp H
  obtain ⟨t310, A40, H⟩ := H
  (try dsimp only at H)
  have A4 := mk_ A40
  clear A40
  by_cases c5 : t310 = true
  rotate_left
  focus
   replace c5 := Bool.eq_false_iff.mpr c5
   subst c5
   have H1 : (some false) = some r := by rw [if_neg (show ¬ (false = true) by decide)] at H; exact H
   clear H
   have H := H1
   clear H1
   obtain rfl := Option.some.inj H
  rotate_left
  focus
   subst c5
   rw [if_pos rfl] at H
   replace H := Option.bind_eq_some_iff.mp H
   obtain ⟨t311, A60, H⟩ := H
   (try dsimp only at H)
   have A6 := mk_ A60
   clear A60
   by_cases c7 : t311 = true
   rotate_left
   focus
    replace c7 := Bool.eq_false_iff.mpr c7
    subst c7
    have H1 : (some false) = some r := by rw [if_neg (show ¬ (false = true) by decide)] at H; exact H
    clear H
    have H := H1
    clear H1
    obtain rfl := Option.some.inj H
   rotate_left
   focus
    subst c7
    rw [if_pos rfl] at H
    replace H := Option.bind_eq_some_iff.mp H
    obtain ⟨t312, A80, H⟩ := H
    (try dsimp only at H)
    have A8 := mk_ A80
    clear A80
    by_cases c9 : t312 = true
    rotate_left
    focus
     replace c9 := Bool.eq_false_iff.mpr c9
     subst c9
     have H1 : (some false) = some r := by rw [if_neg (show ¬ (false = true) by decide)] at H; exact H
     clear H
     have H := H1
     clear H1
     obtain rfl := Option.some.inj H
    rotate_left
    focus
     subst c9
     rw [if_pos rfl] at H
     replace H := Option.bind_eq_some_iff.mp H
     obtain ⟨t313, A100, H⟩ := H
     (try dsimp only at H)
     have A10 := mk_ A100
     clear A100
     by_cases c11 : t313 = true
     rotate_left
     focus
      replace c11 := Bool.eq_false_iff.mpr c11
      subst c11
      have H1 : (some false) = some r := by rw [if_neg (show ¬ (false = true) by decide)] at H; exact H
      clear H
      have H := H1
      clear H1
      obtain rfl := Option.some.inj H
     rotate_left
     focus
      subst c11
      rw [if_pos rfl] at H
      replace H := Option.bind_eq_some_iff.mp H
      obtain ⟨t314, A120, H⟩ := H
      (try dsimp only at H)
      have A12 := mk_ A120
      clear A120
      by_cases c13 : t314 = true
      rotate_left
      focus
       replace c13 := Bool.eq_false_iff.mpr c13
       subst c13
       have H1 : (some false) = some r := by rw [if_neg (show ¬ (false = true) by decide)] at H; exact H
       clear H
       have H := H1
       clear H1
       obtain rfl := Option.some.inj H
      rotate_left
      focus
       subst c13
       rw [if_pos rfl] at H
       by_cases c14 : (l0_8.length : Int) ≤ 48
       rotate_left
       focus
        rw [if_neg c14] at H
        have c14b0 : decide ((l0_8.length : Int) ≤ 48) = false := decide_eq_false c14
        have c14b1 : decide (l0_8.length ≤ 48) = false := decide_eq_false (by omega)
        clear c14
        obtain rfl := Option.some.inj H
       rotate_left
       focus
        rw [if_pos c14] at H
        have c14b0 : decide ((l0_8.length : Int) ≤ 48) = true := decide_eq_true c14
        have c14b1 : decide (l0_8.length ≤ 48) = true := decide_eq_true (by omega)
        clear c14
        by_cases c15 : a0_6 = true
        rotate_left
        focus
         replace c15 := Bool.eq_false_iff.mpr c15
         subst c15
         rw [if_neg (show ¬ (false = true) by decide)] at H
         by_cases c27 : a0_7 = true
         rotate_left
         focus
          replace c27 := Bool.eq_false_iff.mpr c27
          subst c27
          have H1 : (some true) = some r := by rw [if_neg (show ¬ (false = true) by decide)] at H; exact H
          clear H
          have H := H1
          clear H1
          obtain rfl := Option.some.inj H
         rotate_left
         focus
          subst c27
          rw [if_pos rfl] at H
          by_cases c28 : a0_5 = 0
          rotate_left
          focus
           rw [if_neg c28] at H
           have c28b0 : (a0_5 == 0) = false := beq_eq_false_iff_ne.mpr c28
           have c28b1 : (a0_5 != 0) = true := bne_iff_ne.mpr c28
           obtain rfl := Option.some.inj H
          rotate_left
          focus
           rw [if_pos c28] at H
           have c28b0 : (a0_5 == 0) = true := beq_iff_eq.mpr c28
           have c28b1 : (a0_5 != 0) = false := bne_eq_false_iff_eq.mpr c28
           clear c28
           obtain rfl := Option.some.inj H
          rotate_left
         rotate_left 2
        rotate_left 3
        focus
         subst c15
         rw [if_pos rfl] at H
         by_cases c16 : (l0_8.length : Int) > 0
         rotate_left
         focus
          rw [if_neg c16] at H
          have c16b0 : decide (0 < (l0_8.length : Int)) = false := decide_eq_false c16
          have c16b1 : decide (0 < l0_8.length) = false := decide_eq_false (by omega)
          clear c16
          obtain rfl := Option.some.inj H
         rotate_left
         focus
          rw [if_pos c16] at H
          have c16b0 : decide (0 < (l0_8.length : Int)) = true := decide_eq_true c16
          have c16b1 : decide (0 < l0_8.length) = true := decide_eq_true (by omega)
          clear c16
          by_cases c17 : a0_7 = true
          rotate_left
          focus
           replace c17 := Bool.eq_false_iff.mpr c17
           subst c17
           have H1 : (some true) = some r := by rw [if_neg (show ¬ (false = true) by decide)] at H; exact H
           clear H
           have H := H1
           clear H1
           obtain rfl := Option.some.inj H
          rotate_left
          focus
           subst c17
           rw [if_pos rfl] at H
           by_cases c18 : a0_5 = 0
           rotate_left
           focus
            rw [if_neg c18] at H
            have c18b0 : (a0_5 == 0) = false := beq_eq_false_iff_ne.mpr c18
            have c18b1 : (a0_5 != 0) = true := bne_iff_ne.mpr c18
            obtain rfl := Option.some.inj H
           rotate_left
           focus
            rw [if_pos c18] at H
            have c18b0 : (a0_5 == 0) = true := beq_iff_eq.mpr c18
            have c18b1 : (a0_5 != 0) = false := bne_eq_false_iff_eq.mpr c18
            clear c18
            obtain rfl := Option.some.inj H
           rotate_left
          rotate_left 2
         rotate_left 3
        rotate_left 4
       rotate_left 7
      rotate_left 8
     rotate_left 9
    rotate_left 10
   rotate_left 11
  rotate_left 12
 rotate_left 13
 all_goals
  go_enter Try.func67, Try.ntmps67
 have z3_ := trivial
 rotate_left
 have z3_ := trivial
 rotate_left
 have z3_ := trivial
 rotate_left
 have z3_ := trivial
 rotate_left
 have z3_ := trivial
 rotate_left
 have z3_ := trivial
 rotate_left
 have z3_ := trivial
 rotate_left
 have z4_ := trivial
 rotate_left
 have z5_ := trivial
 rotate_left
 have z5_ := trivial
 rotate_left
 have z6_ := trivial
 rotate_left
 have z7_ := trivial
 rotate_left
 have z8_ := trivial
 rotate_left
 have z8_ := trivial
 rotate_left
 all_goals
  go_wp2_with (first | (have zz_ := z3_; clear zz_; (with_reducible refine gate_dst (N := 1) rfl ?_); refine box_event ?hg (N := 1) ?hd (cs := #[.int .i64 a0_0, .int .i64 a0_1, .int .i64 a0_2, .int .i64 a0_3, .int .i64 a0_4, .int .i64 a0_5, .bool a0_6, .bool a0_7, .slice A0_8 l0_8.length c0_8]) (t := 52) ?hr ?_; (case hd => rfl); (case hg => rfl); (case hr => first | (go_simp; done) | (go_simp; rfl)); intro gb1200 hg w1201 hbox hb; have n0_ := mk_ (below_step (ub_ HB.out) hb); have BK308 := mk_ (hbox); have GW308 := mk_ ((by rw [hg]; exact (below_size (ub_ HB.out)) : w.heap.size ≤ gb1200)); have GE308 := ge_ ((by rw [hg]; exact (below_size (ub_ HB.out)) : w.heap.size ≤ gb1200)); replace HB := n0_; clear n0_; clear hb hbox hg; obtain ⟨_, _, _, _, _, _, _, _, _, _, _, _, _, _, _, _, _, _⟩ := cells9_ BK308.out) | (have zz_ := z4_; clear zz_; (with_reducible refine gate_dst (N := 1) rfl ?_); refine box_event ?hg (N := 1) ?hd (cs := #[.int .i64 a0_0, .int .i64 a0_1, .int .i64 a0_2, .int .i64 a0_3, .int .i64 a0_4, .int .i64 a0_5, .bool false, .bool false, .slice A0_8 l0_8.length c0_8]) (t := 52) ?hr ?_; (case hd => rfl); (case hg => rfl); (case hr => first | (go_simp; done) | (go_simp; rfl)); intro gb1200 hg w1201 hbox hb; have n0_ := mk_ (below_step (ub_ HB.out) hb); have BK308 := mk_ (hbox); have GW308 := mk_ ((by rw [hg]; exact (below_size (ub_ HB.out)) : w.heap.size ≤ gb1200)); have GE308 := ge_ ((by rw [hg]; exact (below_size (ub_ HB.out)) : w.heap.size ≤ gb1200)); replace HB := n0_; clear n0_; clear hb hbox hg; obtain ⟨_, _, _, _, _, _, _, _, _, _, _, _, _, _, _, _, _, _⟩ := cells9_ BK308.out) | (have zz_ := z5_; clear zz_; (with_reducible refine gate_dst (N := 1) rfl ?_); refine box_event ?hg (N := 1) ?hd (cs := #[.int .i64 a0_0, .int .i64 a0_1, .int .i64 a0_2, .int .i64 a0_3, .int .i64 a0_4, .int .i64 a0_5, .bool false, .bool true, .slice A0_8 l0_8.length c0_8]) (t := 52) ?hr ?_; (case hd => rfl); (case hg => rfl); (case hr => first | (go_simp; done) | (go_simp; rfl)); intro gb1200 hg w1201 hbox hb; have n0_ := mk_ (below_step (ub_ HB.out) hb); have BK308 := mk_ (hbox); have GW308 := mk_ ((by rw [hg]; exact (below_size (ub_ HB.out)) : w.heap.size ≤ gb1200)); have GE308 := ge_ ((by rw [hg]; exact (below_size (ub_ HB.out)) : w.heap.size ≤ gb1200)); replace HB := n0_; clear n0_; clear hb hbox hg; obtain ⟨_, _, _, _, _, _, _, _, _, _, _, _, _, _, _, _, _, _⟩ := cells9_ BK308.out) | (have zz_ := z6_; clear zz_; (with_reducible refine gate_dst (N := 1) rfl ?_); refine box_event ?hg (N := 1) ?hd (cs := #[.int .i64 a0_0, .int .i64 a0_1, .int .i64 a0_2, .int .i64 a0_3, .int .i64 a0_4, .int .i64 a0_5, .bool true, .bool a0_7, .slice A0_8 l0_8.length c0_8]) (t := 52) ?hr ?_; (case hd => rfl); (case hg => rfl); (case hr => first | (go_simp; done) | (go_simp; rfl)); intro gb1200 hg w1201 hbox hb; have n0_ := mk_ (below_step (ub_ HB.out) hb); have BK308 := mk_ (hbox); have GW308 := mk_ ((by rw [hg]; exact (below_size (ub_ HB.out)) : w.heap.size ≤ gb1200)); have GE308 := ge_ ((by rw [hg]; exact (below_size (ub_ HB.out)) : w.heap.size ≤ gb1200)); replace HB := n0_; clear n0_; clear hb hbox hg; obtain ⟨_, _, _, _, _, _, _, _, _, _, _, _, _, _, _, _, _, _⟩ := cells9_ BK308.out) | (have zz_ := z7_; clear zz_; (with_reducible refine gate_dst (N := 1) rfl ?_); refine box_event ?hg (N := 1) ?hd (cs := #[.int .i64 a0_0, .int .i64 a0_1, .int .i64 a0_2, .int .i64 a0_3, .int .i64 a0_4, .int .i64 a0_5, .bool true, .bool false, .slice A0_8 l0_8.length c0_8]) (t := 52) ?hr ?_; (case hd => rfl); (case hg => rfl); (case hr => first | (go_simp; done) | (go_simp; rfl)); intro gb1200 hg w1201 hbox hb; have n0_ := mk_ (below_step (ub_ HB.out) hb); have BK308 := mk_ (hbox); have GW308 := mk_ ((by rw [hg]; exact (below_size (ub_ HB.out)) : w.heap.size ≤ gb1200)); have GE308 := ge_ ((by rw [hg]; exact (below_size (ub_ HB.out)) : w.heap.size ≤ gb1200)); replace HB := n0_; clear n0_; clear hb hbox hg; obtain ⟨_, _, _, _, _, _, _, _, _, _, _, _, _, _, _, _, _, _⟩ := cells9_ BK308.out) | (have zz_ := z8_; clear zz_; (with_reducible refine gate_dst (N := 1) rfl ?_); refine box_event ?hg (N := 1) ?hd (cs := #[.int .i64 a0_0, .int .i64 a0_1, .int .i64 a0_2, .int .i64 a0_3, .int .i64 a0_4, .int .i64 a0_5, .bool true, .bool true, .slice A0_8 l0_8.length c0_8]) (t := 52) ?hr ?_; (case hd => rfl); (case hg => rfl); (case hr => first | (go_simp; done) | (go_simp; rfl)); intro gb1200 hg w1201 hbox hb; have n0_ := mk_ (below_step (ub_ HB.out) hb); have BK308 := mk_ (hbox); have GW308 := mk_ ((by rw [hg]; exact (below_size (ub_ HB.out)) : w.heap.size ≤ gb1200)); have GE308 := ge_ ((by rw [hg]; exact (below_size (ub_ HB.out)) : w.heap.size ≤ gb1200)); replace HB := n0_; clear n0_; clear hb hbox hg; obtain ⟨_, _, _, _, _, _, _, _, _, _, _, _, _, _, _, _, _, _⟩ := cells9_ BK308.out) | ((with_reducible refine gate_callee (f := 78) rfl ?_); refine goesL_ (some 5) rfl rfl Try.func78 (by kernel_rfl) rfl #[.int .i64 a0_0] rfl (by (try simp only [lm_, lo_, ln_]); try rfl) ?_; (with_reducible refine (impl_word.calls a0_0 false _ A2.out).mono ?_); rintro e w' ⟨rfl, ⟨nd, rfl⟩⟩; refine ⟨_, rfl, ?_⟩) | ((with_reducible refine gate_callee (f := 78) rfl ?_); have hA_ := A2.out; refine goesL_ (some 5) rfl rfl Try.func78 (by kernel_rfl) rfl #[.int .i64 a0_0] rfl (by (try simp only [lm_, lo_, ln_]); try rfl) ?_; (with_reducible refine (impl_word.calls a0_0 true _ A2.out).mono ?_); rintro e w' ⟨rfl, ⟨nd, rfl⟩⟩; refine ⟨_, rfl, ?_⟩; clear hA_ A2) | (go_at_call 78; have hA_ := A4.out; (with_reducible refine (impl_word.calls a0_1 false _ A4.out).mono ?_); rintro e w' ⟨rfl, ⟨nd, rfl⟩⟩; clear hA_ A4) | (go_at_call 78; have hA_ := A4.out; (with_reducible refine (impl_word.calls a0_1 true _ A4.out).mono ?_); rintro e w' ⟨rfl, ⟨nd, rfl⟩⟩; clear hA_ A4) | (go_at_call 76; (with_reducible refine (impl_in.calls a0_2 0 255 false _ A6.out).mono ?_); rintro e w' ⟨rfl, ⟨nd, rfl⟩⟩) | (go_at_call 76; have hA_ := A6.out; (with_reducible refine (impl_in.calls a0_2 0 255 true _ A6.out).mono ?_); rintro e w' ⟨rfl, ⟨nd, rfl⟩⟩; clear hA_ A6) | (go_at_call 76; have hA_ := A8.out; (with_reducible refine (impl_in.calls a0_3 0 255 false _ A8.out).mono ?_); rintro e w' ⟨rfl, ⟨nd, rfl⟩⟩; clear hA_ A8) | (go_at_call 76; have hA_ := A8.out; (with_reducible refine (impl_in.calls a0_3 0 255 true _ A8.out).mono ?_); rintro e w' ⟨rfl, ⟨nd, rfl⟩⟩; clear hA_ A8) | (go_at_call 76; have hA_ := A10.out; (with_reducible refine (impl_in.calls a0_4 0 255 false _ A10.out).mono ?_); rintro e w' ⟨rfl, ⟨nd, rfl⟩⟩; clear hA_ A10) | (go_at_call 76; have hA_ := A10.out; (with_reducible refine (impl_in.calls a0_4 0 255 true _ A10.out).mono ?_); rintro e w' ⟨rfl, ⟨nd, rfl⟩⟩; clear hA_ A10) | (go_at_call 76; have hA_ := A12.out; (with_reducible refine (impl_in.calls a0_5 0 255 false _ A12.out).mono ?_); rintro e w' ⟨rfl, ⟨nd, rfl⟩⟩; clear hA_ A12) | (go_at_call 76; have hA_ := A12.out; (with_reducible refine (impl_in.calls a0_5 0 255 true _ A12.out).mono ?_); rintro e w' ⟨rfl, ⟨nd, rfl⟩⟩; clear hA_ A12))
  go_ret
  exact ⟨by first | rfl | (simp [errW_none, errW_some] <;> rfl) | (simp [*, errW_none, errW_some] <;> rfl), us_ HB.out⟩


/-! ### spec_l20Packet: function 70 -/
def spec_l20Packet.j0 : Nat → Int → List Int → Int → Int → Int → Int → Int → Int → Int → Bool → Bool → List Int → Option (Int × Int × Int × Int × Int × Int × Bool × Bool × List Int × Int)
 | 0, _, _, _, _, _, _, _, _, _, _, _, _ => none
 | k + 1, x1, x1000, x1001, x460000, x460001, x460002, x460003, x460004, x460005, x460006, x460007, x460008 => (spec_l20Rd_odd.f k x1000 x1001 x1).bind fun bt466 => (if bt466.1 = true then ((spec_l20Rd_pick.f k x1000 bt466.2 5).bind fun bt468 => (if bt468.1 = 0 then ((spec_l20Rd_pick.f k x1000 bt468.2 2).bind fun bt470 => (some (x460000, wrap64 (65536 - (wrap64 (bt470.1 * 65540))), x460002, x460003, x460004, x460005, x460006, x460007, x460008, bt470.2))) else (if bt468.1 = 1 then ((spec_l20Rd_pick.f k x1000 bt468.2 2).bind fun bt472 => (some (x460000, x460001, x460002, wrap64 (256 - (wrap64 (bt472.1 * 300))), x460004, x460005, x460006, x460007, x460008, bt472.2))) else (if bt468.1 = 2 then (if 49 ≤ 281474976710656 then (some (x460000, x460001, x460002, x460003, x460004, x460005, x460006, x460007, (List.replicate 49 0), bt468.2)) else (none)) else (if bt468.1 = 3 then (some (x460000, x460001, x460002, x460003, x460004, x460005, true, x460007, ([] : List Int), bt468.2)) else (some (x460000, x460001, x460002, x460003, x460004, 3, x460006, true, x460008, bt468.2))))))) else (some (x460000, x460001, x460002, x460003, x460004, x460005, x460006, x460007, x460008, bt466.2)))
def spec_l20Packet.f (k : Nat) (s0_0 : List Int) (s0_1 : Int) (a1 : Int) : Option (Int × Int × Int × Int × Int × Int × Bool × Bool × List Int × Int) := (spec_l20Rd_pick.f k s0_0 s0_1 5).bind fun bt443 => ((spec_l20Rd_pick.f k s0_0 bt443.2 5).bind fun bt445 => ((spec_l20Rd_pick.f k s0_0 bt445.2 4).bind fun bt447 => ((spec_l20Rd_pick.f k s0_0 bt447.2 6).bind fun bt449 => ((spec_l20Rd_pick.f k s0_0 bt449.2 4).bind fun bt451 => ((spec_l20Rd_pick.f k s0_0 bt451.2 12).bind fun bt453 => ((spec_l20Rd_bytes.f k s0_0 bt453.2 bt453.1).bind fun bt455 => ((spec_l20Rd_pick.f k s0_0 bt455.2 4).bind fun bt460 => (if bt460.1 = 0 then (spec_l20Packet.j0 k a1 s0_0 bt460.2 bt443.1 bt445.1 bt447.1 bt449.1 bt451.1 0 false true bt455.1) else (if bt460.1 = 1 then ((spec_l20Rd_pick.f k s0_0 bt460.2 20).bind fun bt462 => (if (bt455.1.length : Int) > 0 then ((spec_l20Rd_pick.f k s0_0 bt462.2 2).bind fun bt464 => (spec_l20Packet.j0 k a1 s0_0 bt464.2 bt443.1 bt445.1 bt447.1 bt449.1 bt451.1 bt462.1 (bt464.1 == 0) false bt455.1)) else (spec_l20Packet.j0 k a1 s0_0 bt462.2 bt443.1 bt445.1 bt447.1 bt449.1 bt451.1 bt462.1 false false bt455.1))) else (spec_l20Packet.j0 k a1 s0_0 bt460.2 bt443.1 bt445.1 bt447.1 bt449.1 bt451.1 0 false false bt455.1))))))))))
theorem spec_l20Packet.mono_l : ∀ k, (∀ y0 y1 y2 y3 y4 y5 y6 y7 y8 y9 y10 y11, LeO (spec_l20Packet.j0 k y0 y1 y2 y3 y4 y5 y6 y7 y8 y9 y10 y11) (spec_l20Packet.j0 (k + 1) y0 y1 y2 y3 y4 y5 y6 y7 y8 y9 y10 y11))
 | 0 => fun _ _ _ _ _ _ _ _ _ _ _ _ r h => by simp [spec_l20Packet.j0] at h
 | k + 1 => by
  have ih0 := spec_l20Packet.mono_l k
  ·intro y0 y1 y2 y3 y4 y5 y6 y7 y8 y9 y10 y11
   unfold spec_l20Packet.j0
   repeat' first
   | (with_reducible exact ih0 _ _ _ _ _ _ _ _ _ _ _ _)
   | (with_reducible exact spec_l20Rd_bytes.mono _ _ _ _)
   | (with_reducible exact spec_l20Rd_odd.mono _ _ _ _)
   | (with_reducible exact spec_l20Rd_pick.mono _ _ _ _)
   | (with_reducible exact LeO.refl _)
   | (with_reducible exact LeO.none _)
   | (with_reducible refine LeO.ite ?_ ?_)
   | (with_reducible refine LeO.bind ?_ (fun _ => ?_))
   | exact ih0 _ _ _ _ _ _ _ _ _ _ _ _
   | exact spec_l20Rd_bytes.mono _ _ _ _
   | exact spec_l20Rd_odd.mono _ _ _ _
   | exact spec_l20Rd_pick.mono _ _ _ _
   | exact LeO.none _
   | refine LeO.ite ?_ ?_
   | refine LeO.bind ?_ (fun _ => ?_)
theorem spec_l20Packet.mono : ∀ a0 a1 a2 k, LeO (spec_l20Packet.f k a0 a1 a2) (spec_l20Packet.f (k + 1) a0 a1 a2) := by
 intro a0 a1 a2 k
 have ih0 := spec_l20Packet.mono_l k
 unfold spec_l20Packet.f
 repeat' first
   | (with_reducible exact ih0 _ _ _ _ _ _ _ _ _ _ _ _)
   | (with_reducible exact spec_l20Rd_bytes.mono _ _ _ _)
   | (with_reducible exact spec_l20Rd_odd.mono _ _ _ _)
   | (with_reducible exact spec_l20Rd_pick.mono _ _ _ _)
   | (with_reducible exact LeO.refl _)
   | (with_reducible exact LeO.none _)
   | (with_reducible refine LeO.ite ?_ ?_)
   | (with_reducible refine LeO.bind ?_ (fun _ => ?_))
   | exact ih0 _ _ _ _ _ _ _ _ _ _ _ _
   | exact spec_l20Rd_bytes.mono _ _ _ _
   | exact spec_l20Rd_odd.mono _ _ _ _
   | exact spec_l20Rd_pick.mono _ _ _ _
   | exact LeO.none _
   | refine LeO.ite ?_ ?_
   | refine LeO.bind ?_ (fun _ => ?_)
set_option maxHeartbeats 8000000 in
set_option maxRecDepth 100000 in
theorem spec_l20Packet.calls (k : Nat) (g : Nat) (s0_0 : List Int) (s0_1 : Int) (a1 : Int) (r1 : Int) (r2 : Int) (r3 : Int) (r4 : Int) (r5 : Int) (r6 : Int) (r7 : Bool) (r8 : Bool) (r9 : List Int) (r10 : Int) (w0 w : World) (hI : IsS93 w0 w g s0_0 s0_1) (hB : Below w0.heap.size w0 w) (h : spec_l20Packet.f k s0_0 s0_1 a1 = some (r1, r2, r3, r4, r5, r6, r7, r8, r9, r10)) :
  Calls Try.prog 70 #[.pointer (some ⟨g, 0, none⟩), .int .i64 a1] w fun e w' => ∃ v8_ : Value, e = .returned (.agg #[.int .i64 r1, .int .i64 r2, .int .i64 r3, .int .i64 r4, .int .i64 r5, .int .i64 r6, .bool r7, .bool r8, v8_]) ∧ Kd.R (Kd.int .u8) 5 w' w.heap.size (fun _ => True) v8_ r9 ∧ IsS93 w0 w' g s0_0 r10 ∧ Below w0.heap.size w0 w' ∧ KeepBut w w' g none := by
 have hu52 := Try.underlying52
 have HI0 := mk_ hI
 have HK := mk_ (KeepBut.refl w g none)
 have HL := mk_ hB.size
 clear hI
 have HW0 := mk_ hB.size
 have HB := mk_ hB
 clear hB
 have H := h
 unfold spec_l20Packet.f at H
 clear h
 replace H := Option.bind_eq_some_iff.mp H
 obtain ⟨⟨t443, t444⟩, A30, H⟩ := H
 (try dsimp only at H)
 have A3 := mk_ A30
 clear A30
 replace H := Option.bind_eq_some_iff.mp H
 obtain ⟨⟨t445, t446⟩, A40, H⟩ := H
 (try dsimp only at H)
 have A4 := mk_ A40
 clear A40
 replace H := Option.bind_eq_some_iff.mp H
 obtain ⟨⟨t447, t448⟩, A50, H⟩ := H
 (try dsimp only at H)
 have A5 := mk_ A50
 clear A50
 replace H := Option.bind_eq_some_iff.mp H
 obtain ⟨⟨t449, t450⟩, A60, H⟩ := H
 (try dsimp only at H)
 have A6 := mk_ A60
 clear A60
 replace H := Option.bind_eq_some_iff.mp H
 obtain ⟨⟨t451, t452⟩, A70, H⟩ := H
 (try dsimp only at H)
 have A7 := mk_ A70
 clear A70
 replace H := Option.bind_eq_some_iff.mp H
 obtain ⟨⟨t453, t454⟩, A80, H⟩ := H
 (try dsimp only at H)
 have A8 := mk_ A80
 clear A80
 replace H := Option.bind_eq_some_iff.mp H
 obtain ⟨⟨t455, t458⟩, A90, H⟩ := H
 (try dsimp only at H)
 have A9 := mk_ A90
 clear A90
 replace H := Option.bind_eq_some_iff.mp H
 obtain ⟨⟨t460, t461⟩, A100, H⟩ := H
 (try dsimp only at H)
 have A10 := mk_ A100
 clear A100
 have HC11 := mk_ H
 clear H
 go_enter Try.func70, Try.ntmps70
 go_upto_block 0 with (first | ((with_reducible refine gate_dst (N := 4) rfl ?_); refine box_event ?hg (N := 4) ?hd (cs := #[.int .i64 0, .int .i64 0, .int .i64 0, .int .i64 0, .int .i64 0, .int .i64 0, .bool false, .bool false, .slice none 0 0]) (t := 52) ?hr ?_; (case hd => rfl); (case hg => rfl); (case hr => first | (go_simp; done) | (go_simp; rfl)); intro gb442 hg w12 hbox hb; have n0_ := mk_ (IsS93.below (by repeat (first | (with_reducible first | exact HI0.out | apply IsS93.alloc | apply IsS93.drewN | apply IsS93.drew | apply IsS93.set_1) | exact HI0.out)) hb); have n1_ := mk_ (KeepBut.trans (by repeat (first | (with_reducible first | exact HK.out | apply KeepBut.set_ | apply keep_drewN | apply keep_drew | apply keep_alloc) | exact HK.out)) (KeepBut.of_below hb g none) (.inl rfl)); replace HB := mk_ (below_step (by repeat (first | (with_reducible first | exact HB.out | apply na_ | apply nn_ | apply nw_ | refine bs_ ?_ (IsS93.ge HI0.out)) | exact HB.out)) hb); have BK442 := mk_ (hbox); have GW442 := mk_ ((by rw [hg]; exact (keep_size (w := w) (g := g) (row := none) (by repeat (first | (with_reducible first | exact HK.out | apply KeepBut.set_ | apply keep_drewN | apply keep_drew | apply keep_alloc) | exact HK.out))) : w.heap.size ≤ gb442)); have GE442 := ge_ ((Nat.le_trans HW0.out (by rw [hg]; exact (keep_size (w := w) (g := g) (row := none) (by repeat (first | (with_reducible first | exact HK.out | apply KeepBut.set_ | apply keep_drewN | apply keep_drew | apply keep_alloc) | exact HK.out))) : w.heap.size ≤ gb442) : w0.heap.size ≤ gb442)); have NB0_442 := nq_ ((by rw [hg]; exact Nat.ne_of_lt (IsS93.lt (show IsS93 w0 _ g s0_0 s0_1 from by repeat (first | (with_reducible first | exact HI0.out | apply IsS93.alloc | apply IsS93.drewN | apply IsS93.drew | apply IsS93.set_1) | exact HI0.out))) : g ≠ gb442)); have NB442_0 := nq_ ((by rw [hg]; exact Nat.ne_of_gt (IsS93.lt (show IsS93 w0 _ g s0_0 s0_1 from by repeat (first | (with_reducible first | exact HI0.out | apply IsS93.alloc | apply IsS93.drewN | apply IsS93.drew | apply IsS93.set_1) | exact HI0.out))) : gb442 ≠ g)); replace HI0 := n0_; replace HK := n1_; clear n0_ n1_; clear hb hbox hg) | ((with_reducible refine gate_callee (f := 58) rfl ?_); refine goesL_ (some 7) rfl rfl Try.func58 (by kernel_rfl) rfl #[.pointer (some ⟨g, 0, none⟩), .int .i64 5] rfl (by (try simp only [lm_, lo_, ln_]); try rfl) ?_; (with_reducible refine (spec_l20Rd_pick.calls k g s0_0 s0_1 5 t443 t444 w0 _ ?side1 ?side2 A3.out).mono ?_); (case side1 => repeat (first | (with_reducible first | exact HI0.out | apply IsS93.alloc | apply IsS93.drewN | apply IsS93.drew | apply IsS93.set_1 | refine IsS93.far ?_ NB0_442.out _) | exact HI0.out)); (case side2 => repeat (first | (with_reducible first | exact HB.out | apply na_ | apply nn_ | apply nw_ | refine bs_ ?_ (IsS93.ge HI0.out) | refine bs_ ?_ GE442.out) | exact HB.out)); rintro e w13 ⟨rfl, hi, hb, hk⟩; refine ⟨_, rfl, ?_⟩; replace BK442 := mk_ (KeepBut.blk hk (g' := gb442) (o := .cells #[.int .i64 0, .int .i64 0, .int .i64 0, .int .i64 0, .int .i64 0, .int .i64 0, .bool false, .bool false, .slice none 0 0] 52 (0, 0)) (u_ BK442.out) NB442_0.out (by simp)); replace HK := mk_ (KeepBut.trans (by repeat (first | (with_reducible first | exact HK.out | apply KeepBut.set_ | apply keep_drewN | apply keep_drew | apply keep_alloc | refine keep_far ?_ GW442.out _) | exact HK.out)) hk (.inl rfl)); replace HB := mk_ (hb); replace HI0 := mk_ (hi)) | ((with_reducible refine gate_callee (f := 58) rfl ?_); refine goesL_ (some 9) rfl rfl Try.func58 (by kernel_rfl) rfl #[.pointer (some ⟨g, 0, none⟩), .int .i64 5] rfl (by (try simp only [lm_, lo_, ln_]); try rfl) ?_; (with_reducible refine (spec_l20Rd_pick.calls k g s0_0 t444 5 t445 t446 w0 _ ?side1 ?side2 A4.out).mono ?_); (case side1 => repeat (first | (with_reducible first | exact HI0.out | apply IsS93.alloc | apply IsS93.drewN | apply IsS93.drew | apply IsS93.set_1 | refine IsS93.far ?_ NB0_442.out _) | exact HI0.out)); (case side2 => repeat (first | (with_reducible first | exact HB.out | apply na_ | apply nn_ | apply nw_ | refine bs_ ?_ (IsS93.ge HI0.out) | refine bs_ ?_ GE442.out) | exact HB.out)); rintro e w14 ⟨rfl, hi, hb, hk⟩; refine ⟨_, rfl, ?_⟩; replace BK442 := mk_ (KeepBut.blk hk (g' := gb442) (o := .cells #[.int .i64 0, .int .i64 0, .int .i64 0, .int .i64 0, .int .i64 0, .int .i64 0, .bool false, .bool false, .slice none 0 0] 52 (0, 0)) (u_ BK442.out) NB442_0.out (by simp)); replace HK := mk_ (KeepBut.trans (by repeat (first | (with_reducible first | exact HK.out | apply KeepBut.set_ | apply keep_drewN | apply keep_drew | apply keep_alloc | refine keep_far ?_ GW442.out _) | exact HK.out)) hk (.inl rfl)); replace HB := mk_ (hb); replace HI0 := mk_ (hi)) | ((with_reducible refine gate_callee (f := 58) rfl ?_); refine goesL_ (some 11) rfl rfl Try.func58 (by kernel_rfl) rfl #[.pointer (some ⟨g, 0, none⟩), .int .i64 4] rfl (by (try simp only [lm_, lo_, ln_]); try rfl) ?_; (with_reducible refine (spec_l20Rd_pick.calls k g s0_0 t446 4 t447 t448 w0 _ ?side1 ?side2 A5.out).mono ?_); (case side1 => repeat (first | (with_reducible first | exact HI0.out | apply IsS93.alloc | apply IsS93.drewN | apply IsS93.drew | apply IsS93.set_1 | refine IsS93.far ?_ NB0_442.out _) | exact HI0.out)); (case side2 => repeat (first | (with_reducible first | exact HB.out | apply na_ | apply nn_ | apply nw_ | refine bs_ ?_ (IsS93.ge HI0.out) | refine bs_ ?_ GE442.out) | exact HB.out)); rintro e w15 ⟨rfl, hi, hb, hk⟩; refine ⟨_, rfl, ?_⟩; replace BK442 := mk_ (KeepBut.blk hk (g' := gb442) (o := .cells #[.int .i64 0, .int .i64 0, .int .i64 0, .int .i64 0, .int .i64 0, .int .i64 0, .bool false, .bool false, .slice none 0 0] 52 (0, 0)) (u_ BK442.out) NB442_0.out (by simp)); replace HK := mk_ (KeepBut.trans (by repeat (first | (with_reducible first | exact HK.out | apply KeepBut.set_ | apply keep_drewN | apply keep_drew | apply keep_alloc | refine keep_far ?_ GW442.out _) | exact HK.out)) hk (.inl rfl)); replace HB := mk_ (hb); replace HI0 := mk_ (hi)) | ((with_reducible refine gate_callee (f := 58) rfl ?_); refine goesL_ (some 13) rfl rfl Try.func58 (by kernel_rfl) rfl #[.pointer (some ⟨g, 0, none⟩), .int .i64 6] rfl (by (try simp only [lm_, lo_, ln_]); try rfl) ?_; (with_reducible refine (spec_l20Rd_pick.calls k g s0_0 t448 6 t449 t450 w0 _ ?side1 ?side2 A6.out).mono ?_); (case side1 => repeat (first | (with_reducible first | exact HI0.out | apply IsS93.alloc | apply IsS93.drewN | apply IsS93.drew | apply IsS93.set_1 | refine IsS93.far ?_ NB0_442.out _) | exact HI0.out)); (case side2 => repeat (first | (with_reducible first | exact HB.out | apply na_ | apply nn_ | apply nw_ | refine bs_ ?_ (IsS93.ge HI0.out) | refine bs_ ?_ GE442.out) | exact HB.out)); rintro e w16 ⟨rfl, hi, hb, hk⟩; refine ⟨_, rfl, ?_⟩; replace BK442 := mk_ (KeepBut.blk hk (g' := gb442) (o := .cells #[.int .i64 0, .int .i64 0, .int .i64 0, .int .i64 0, .int .i64 0, .int .i64 0, .bool false, .bool false, .slice none 0 0] 52 (0, 0)) (u_ BK442.out) NB442_0.out (by simp)); replace HK := mk_ (KeepBut.trans (by repeat (first | (with_reducible first | exact HK.out | apply KeepBut.set_ | apply keep_drewN | apply keep_drew | apply keep_alloc | refine keep_far ?_ GW442.out _) | exact HK.out)) hk (.inl rfl)); replace HB := mk_ (hb); replace HI0 := mk_ (hi)) | ((with_reducible refine gate_callee (f := 58) rfl ?_); refine goesL_ (some 15) rfl rfl Try.func58 (by kernel_rfl) rfl #[.pointer (some ⟨g, 0, none⟩), .int .i64 4] rfl (by (try simp only [lm_, lo_, ln_]); try rfl) ?_; (with_reducible refine (spec_l20Rd_pick.calls k g s0_0 t450 4 t451 t452 w0 _ ?side1 ?side2 A7.out).mono ?_); (case side1 => repeat (first | (with_reducible first | exact HI0.out | apply IsS93.alloc | apply IsS93.drewN | apply IsS93.drew | apply IsS93.set_1 | refine IsS93.far ?_ NB0_442.out _) | exact HI0.out)); (case side2 => repeat (first | (with_reducible first | exact HB.out | apply na_ | apply nn_ | apply nw_ | refine bs_ ?_ (IsS93.ge HI0.out) | refine bs_ ?_ GE442.out) | exact HB.out)); rintro e w17 ⟨rfl, hi, hb, hk⟩; refine ⟨_, rfl, ?_⟩; replace BK442 := mk_ (KeepBut.blk hk (g' := gb442) (o := .cells #[.int .i64 0, .int .i64 0, .int .i64 0, .int .i64 0, .int .i64 0, .int .i64 0, .bool false, .bool false, .slice none 0 0] 52 (0, 0)) (u_ BK442.out) NB442_0.out (by simp)); replace HK := mk_ (KeepBut.trans (by repeat (first | (with_reducible first | exact HK.out | apply KeepBut.set_ | apply keep_drewN | apply keep_drew | apply keep_alloc | refine keep_far ?_ GW442.out _) | exact HK.out)) hk (.inl rfl)); replace HB := mk_ (hb); replace HI0 := mk_ (hi)) | ((with_reducible refine gate_callee (f := 58) rfl ?_); refine goesL_ (some 18) rfl rfl Try.func58 (by kernel_rfl) rfl #[.pointer (some ⟨g, 0, none⟩), .int .i64 12] rfl (by (try simp only [lm_, lo_, ln_]); try rfl) ?_; (with_reducible refine (spec_l20Rd_pick.calls k g s0_0 t452 12 t453 t454 w0 _ ?side1 ?side2 A8.out).mono ?_); (case side1 => repeat (first | (with_reducible first | exact HI0.out | apply IsS93.alloc | apply IsS93.drewN | apply IsS93.drew | apply IsS93.set_1 | refine IsS93.far ?_ NB0_442.out _) | exact HI0.out)); (case side2 => repeat (first | (with_reducible first | exact HB.out | apply na_ | apply nn_ | apply nw_ | refine bs_ ?_ (IsS93.ge HI0.out) | refine bs_ ?_ GE442.out) | exact HB.out)); rintro e w18 ⟨rfl, hi, hb, hk⟩; refine ⟨_, rfl, ?_⟩; replace BK442 := mk_ (KeepBut.blk hk (g' := gb442) (o := .cells #[.int .i64 0, .int .i64 0, .int .i64 0, .int .i64 0, .int .i64 0, .int .i64 0, .bool false, .bool false, .slice none 0 0] 52 (0, 0)) (u_ BK442.out) NB442_0.out (by simp)); replace HK := mk_ (KeepBut.trans (by repeat (first | (with_reducible first | exact HK.out | apply KeepBut.set_ | apply keep_drewN | apply keep_drew | apply keep_alloc | refine keep_far ?_ GW442.out _) | exact HK.out)) hk (.inl rfl)); replace HB := mk_ (hb); replace HI0 := mk_ (hi)) | ((with_reducible refine gate_callee (f := 91) rfl ?_); refine goesL_ (some 19) rfl rfl Try.func91 (by kernel_rfl) rfl #[.pointer (some ⟨g, 0, none⟩), .int .i64 t453] rfl (by (try simp only [lm_, lo_, ln_]); try rfl) ?_; (with_reducible refine (spec_l20Rd_bytes.calls k g s0_0 t454 t453 t455 t458 w0 _ ?side1 ?side2 A9.out).mono ?_); (case side1 => repeat (first | (with_reducible first | exact HI0.out | apply IsS93.alloc | apply IsS93.drewN | apply IsS93.drew | apply IsS93.set_1 | refine IsS93.far ?_ NB0_442.out _) | exact HI0.out)); (case side2 => repeat (first | (with_reducible first | exact HB.out | apply na_ | apply nn_ | apply nw_ | refine bs_ ?_ (IsS93.ge HI0.out) | refine bs_ ?_ GE442.out) | exact HB.out)); rintro e w19 ⟨v456, rfl, ho0, hi, hb, hk⟩; refine ⟨_, rfl, ?_⟩; replace BK442 := mk_ (KeepBut.blk hk (g' := gb442) (o := .cells #[.int .i64 0, .int .i64 0, .int .i64 0, .int .i64 0, .int .i64 0, .int .i64 0, .bool false, .bool false, .slice none 0 0] 52 (0, 0)) (u_ BK442.out) NB442_0.out (by simp)); have HO457 := mk_ (Kd.R_lower ho0 (keep_size (w := w) (g := g) (row := none) (by repeat (first | (with_reducible first | exact HK.out | apply KeepBut.set_ | apply keep_drewN | apply keep_drew | apply keep_alloc | refine keep_far ?_ GW442.out _) | exact HK.out)))); replace HK := mk_ (KeepBut.trans (by repeat (first | (with_reducible first | exact HK.out | apply KeepBut.set_ | apply keep_drewN | apply keep_drew | apply keep_alloc | refine keep_far ?_ GW442.out _) | exact HK.out)) hk (.inl rfl)); replace HB := mk_ (hb); replace HI0 := mk_ (hi); obtain ⟨Ao20, co20, eo20⟩ := Kd.R_slice HO457.out; subst eo20) | ((with_reducible refine gate_dst (N := 5) rfl ?_); refine box_event ?hg (N := 5) ?hd (cs := #[.int .i64 0, .int .i64 0, .int .i64 0, .int .i64 0, .int .i64 0, .int .i64 0, .bool false, .bool false, .slice none 0 0]) (t := 52) ?hr ?_; (case hd => rfl); (case hg => rfl); (case hr => first | (go_simp; done) | (go_simp; rfl)); intro gb459 hg w21 hbox hb; replace HO457 := mk_ (Kd.R_below (Kd.ur_ HO457.out) hb); have n1_ := mk_ (IsS93.below (by repeat (first | (with_reducible first | exact HI0.out | apply IsS93.alloc | apply IsS93.drewN | apply IsS93.drew | apply IsS93.set_1 | refine IsS93.far ?_ NB0_442.out _) | exact HI0.out)) hb); have n2_ := mk_ (blk_below (u_ BK442.out) hb); have n3_ := mk_ (KeepBut.trans (by repeat (first | (with_reducible first | exact HK.out | apply KeepBut.set_ | apply keep_drewN | apply keep_drew | apply keep_alloc | refine keep_far ?_ GW442.out _) | exact HK.out)) (KeepBut.of_below hb g none) (.inl rfl)); replace HB := mk_ (below_step (by repeat (first | (with_reducible first | exact HB.out | apply na_ | apply nn_ | apply nw_ | refine bs_ ?_ (IsS93.ge HI0.out) | refine bs_ ?_ GE442.out) | exact HB.out)) hb); have BK459 := mk_ (hbox); have GW459 := mk_ ((by rw [hg]; exact (keep_size (w := w) (g := g) (row := none) (by repeat (first | (with_reducible first | exact HK.out | apply KeepBut.set_ | apply keep_drewN | apply keep_drew | apply keep_alloc | refine keep_far ?_ GW442.out _) | exact HK.out))) : w.heap.size ≤ gb459)); have GE459 := ge_ ((Nat.le_trans HW0.out (by rw [hg]; exact (keep_size (w := w) (g := g) (row := none) (by repeat (first | (with_reducible first | exact HK.out | apply KeepBut.set_ | apply keep_drewN | apply keep_drew | apply keep_alloc | refine keep_far ?_ GW442.out _) | exact HK.out))) : w.heap.size ≤ gb459) : w0.heap.size ≤ gb459)); have NB442_459 := nq_ ((by rw [hg]; exact Nat.ne_of_lt (blk_lt (u_ BK442.out)) : gb442 ≠ gb459)); have NB459_442 := nq_ ((by rw [hg]; exact Nat.ne_of_gt (blk_lt (u_ BK442.out)) : gb459 ≠ gb442)); have NB0_459 := nq_ ((by rw [hg]; exact Nat.ne_of_lt (IsS93.lt (show IsS93 w0 _ g s0_0 t458 from by repeat (first | (with_reducible first | exact HI0.out | apply IsS93.alloc | apply IsS93.drewN | apply IsS93.drew | apply IsS93.set_1 | refine IsS93.far ?_ NB0_442.out _) | exact HI0.out))) : g ≠ gb459)); have NB459_0 := nq_ ((by rw [hg]; exact Nat.ne_of_gt (IsS93.lt (show IsS93 w0 _ g s0_0 t458 from by repeat (first | (with_reducible first | exact HI0.out | apply IsS93.alloc | apply IsS93.drewN | apply IsS93.drew | apply IsS93.set_1 | refine IsS93.far ?_ NB0_442.out _) | exact HI0.out))) : gb459 ≠ g)); replace HI0 := n1_; replace BK442 := n2_; replace HK := n3_; clear n1_ n2_ n3_; clear hb hbox hg; have hnb22 := NB459_442.out; have hnc22 := NB442_459.out; have hnb23 := NB459_0.out; have hnc23 := NB0_459.out; obtain ⟨hcz24_0, hcz24_1, hcz24_2, hcz24_3, hcz24_4, hcz24_5, hcz24_6, hcz24_7, hcz24_8, hfz24_0, hfz24_1, hfz24_2, hfz24_3, hfz24_4, hfz24_5, hfz24_6, hfz24_7, hfz24_8⟩ := cells9_ BK459.out) | ((with_reducible refine gate_store (t := 52) (p := 5) rfl ?_); refine store_event (t := 52) (p := 5) (v := ?_) (w1 := ?_) ?hg ?ho ?hn ?hr ?_; (case ho => rfl); (case hg => rfl); (case hn => rfl); (case hr => first | (go_simp; done) | (go_simp; rfl)); intro w25 hw; have n0_ : Aside0 (Kd.R (Kd.int .u8) 5 w25 w.heap.size (fun _ => True) (.slice Ao20 t455.length co20) t455) := ⟨(by rw [hw]; exact (by (with_reducible repeat (first | apply Kd.R_alloc | apply Kd.R_drewN | apply Kd.R_drew)); exact Kd.R_mono (Kd.R_far9 (g := gb459) (Kd.R_types HO457.out BK459.out (by decide)) (fun _ hk => hk.2) _ _ _ _ _ _ _ _ _) (fun _ hk => trivial)))⟩; have n1_ : Aside0 (w25.heap[gb442]? = some (.cells #[.int .i64 0, .int .i64 0, .int .i64 0, .int .i64 0, .int .i64 0, .int .i64 0, .bool false, .bool false, .slice none 0 0] 52 (0, 0))) := ⟨(by rw [hw]; exact (uf_ BK442.out))⟩; have n2_ : Aside0 (w25.heap[gb459]? = some (.cells #[.int .i64 t443, .int .i64 t445, .int .i64 t447, .int .i64 t449, .int .i64 t451, .int .i64 0, .bool false, .bool false, .slice Ao20 t455.length co20] 52 (0, 0))) := ⟨(by rw [hw]; exact (by (with_reducible repeat (first | refine bn_ ?_ _ | refine bw_ ?_ | refine ba_ ?_ _)); with_reducible apply blk_put9; (with_reducible repeat (first | refine bn_ ?_ _ | refine bw_ ?_ | refine ba_ ?_ _)); exact BK459.out))⟩; have n3_ : Aside0 (IsS93 w0 w25 g s0_0 t458) := ⟨(by rw [hw]; exact (by repeat (first | (with_reducible first | exact HI0.out | apply IsS93.alloc | apply IsS93.drewN | apply IsS93.drew | apply IsS93.set_1 | refine IsS93.far ?_ NB0_442.out _ | refine IsS93.far ?_ NB0_459.out _) | exact HI0.out)))⟩; have n4_ : Aside0 (KeepBut w w25 g none) := ⟨(by rw [hw]; exact (by repeat (first | (with_reducible first | exact HK.out | apply KeepBut.set_ | apply keep_drewN | apply keep_drew | apply keep_alloc | refine keep_far ?_ GW442.out _ | refine keep_far ?_ GW459.out _) | exact HK.out)))⟩; have n5_ : Aside0 (Below w0.heap.size w0 w25) := ⟨(by rw [hw]; exact (by repeat (first | (with_reducible first | exact HB.out | apply na_ | apply nn_ | apply nw_ | refine bs_ ?_ (IsS93.ge HI0.out) | refine bs_ ?_ GE442.out | refine bs_ ?_ GE459.out) | exact HB.out)))⟩; clear hw; clear HO457; clear BK442; clear BK459; clear HI0; clear HK; clear HB; have HO457 := n0_; have BK442 := n1_; have BK459 := n2_; have HI0 := n3_; have HK := n4_; have HB := n5_; clear n0_ n1_ n2_ n3_ n4_ n5_) | ((with_reducible refine gate_callee (f := 58) rfl ?_); refine goesL_ (some 22) rfl rfl Try.func58 (by kernel_rfl) rfl #[.pointer (some ⟨g, 0, none⟩), .int .i64 4] rfl (by (try simp only [lm_, lo_, ln_]); try rfl) ?_; (with_reducible refine (spec_l20Rd_pick.calls k g s0_0 t458 4 t460 t461 w0 _ ?side1 ?side2 A10.out).mono ?_); (case side1 => repeat (first | (with_reducible first | exact HI0.out | apply IsS93.alloc | apply IsS93.drewN | apply IsS93.drew | apply IsS93.set_1 | refine IsS93.far ?_ NB0_442.out _ | refine IsS93.far ?_ NB0_459.out _) | exact HI0.out)); (case side2 => repeat (first | (with_reducible first | exact HB.out | apply na_ | apply nn_ | apply nw_ | refine bs_ ?_ (IsS93.ge HI0.out) | refine bs_ ?_ GE442.out | refine bs_ ?_ GE459.out) | exact HB.out)); rintro e w26 ⟨rfl, hi, hb, hk⟩; refine ⟨_, rfl, ?_⟩; replace BK442 := mk_ (KeepBut.blk hk (g' := gb442) (o := .cells #[.int .i64 0, .int .i64 0, .int .i64 0, .int .i64 0, .int .i64 0, .int .i64 0, .bool false, .bool false, .slice none 0 0] 52 (0, 0)) (u_ BK442.out) NB442_0.out (by simp)); replace HO457 := mk_ (Kd.R_mono (Kd.R_keep (IsS93.apart (show IsS93 w0 _ g s0_0 t458 from by repeat (first | (with_reducible first | exact HI0.out | apply IsS93.alloc | apply IsS93.drewN | apply IsS93.drew | apply IsS93.set_1 | refine IsS93.far ?_ NB0_442.out _ | refine IsS93.far ?_ NB0_459.out _) | exact HI0.out)) (Kd.ur_ HO457.out) (by decide)) hk (fun _ h => h.2)) (fun _ h => h.1)); replace BK459 := mk_ (KeepBut.blk hk (g' := gb459) (o := .cells #[.int .i64 t443, .int .i64 t445, .int .i64 t447, .int .i64 t449, .int .i64 t451, .int .i64 0, .bool false, .bool false, .slice Ao20 t455.length co20] 52 (0, 0)) (u_ BK459.out) NB459_0.out (by simp)); replace HK := mk_ (KeepBut.trans (by repeat (first | (with_reducible first | exact HK.out | apply KeepBut.set_ | apply keep_drewN | apply keep_drew | apply keep_alloc | refine keep_far ?_ GW442.out _ | refine keep_far ?_ GW459.out _) | exact HK.out)) hk (.inl rfl)); replace HB := mk_ (hb); replace HI0 := mk_ (hi)))
 (try simp only [Act.put, la_, lz_, ls_])
 go_cut [] (fun wc => ∃ (kq : Nat) (x1001_10 : Int) (x460005_10 : Int) (x460006_10 : Bool) (x460007_10 : Bool), Aside0 (spec_l20Packet.j0 kq a1 s0_0 x1001_10 t443 t445 t447 t449 t451 x460005_10 x460006_10 x460007_10 t455 = some (r1, r2, r3, r4, r5, r6, r7, r8, r9, r10)) ∧ Aside0 (kq ≤ k) ∧ Aside0 (Kd.R (Kd.int .u8) 5 wc w.heap.size (fun _ => True) (.slice Ao20 t455.length co20) t455) ∧ Aside0 (wc.heap[gb442]? = some (.cells #[.int .i64 0, .int .i64 0, .int .i64 0, .int .i64 0, .int .i64 0, .int .i64 0, .bool false, .bool false, (.slice none 0 0)] 52 (0, 0))) ∧ Aside0 (wc.heap[gb459]? = some (.cells #[.int .i64 t443, .int .i64 t445, .int .i64 t447, .int .i64 t449, .int .i64 t451, .int .i64 x460005_10, .bool x460006_10, .bool x460007_10, (.slice Ao20 t455.length co20)] 52 (0, 0))) ∧ Aside0 (IsS93 w0 wc g s0_0 x1001_10) ∧ Aside0 (KeepBut w wc g none) ∧ Aside0 (Below w0.heap.size w0 wc))
 case first =>
  have H := HC11.out
  clear HC11
  by_cases c27 : t460 = 0
  focus
   rw [if_pos c27] at H
   have c27b0 : (t460 == 0) = true := beq_iff_eq.mpr c27
   have c27b1 : (t460 != 0) = false := bne_eq_false_iff_eq.mpr c27
   clear c27
   (first | rw [c27b0] | (simp only [i64_w, i32_w]; rw [c27b0]) | skip)
   have H' := mk_ H
   clear H
   have hnb28 := NB459_442.out
   have hnc28 := NB442_459.out
   have hnb29 := NB459_0.out
   have hnc29 := NB0_459.out
   obtain ⟨hcz30_0, hcz30_1, hcz30_2, hcz30_3, hcz30_4, hcz30_5, hcz30_6, hcz30_7, hcz30_8, hfz30_0, hfz30_1, hfz30_2, hfz30_3, hfz30_4, hfz30_5, hfz30_6, hfz30_7, hfz30_8⟩ := cells9_ BK459.out
  rotate_left
  focus
   rw [if_neg c27] at H
   have c27b0 : (t460 == 0) = false := beq_eq_false_iff_ne.mpr c27
   have c27b1 : (t460 != 0) = true := bne_iff_ne.mpr c27
   (first | rw [c27b0] | (simp only [i64_w, i32_w]; rw [c27b0]) | skip)
   by_cases c31 : t460 = 1
   rotate_left
   focus
    rw [if_neg c31] at H
    have c31b0 : (t460 == 1) = false := beq_eq_false_iff_ne.mpr c31
    have c31b1 : (t460 != 1) = true := bne_iff_ne.mpr c31
    have H' := mk_ H
    clear H
   rotate_left
   focus
    rw [if_pos c31] at H
    have c31b0 : (t460 == 1) = true := beq_iff_eq.mpr c31
    have c31b1 : (t460 != 1) = false := bne_eq_false_iff_eq.mpr c31
    clear c31
    replace H := Option.bind_eq_some_iff.mp H
    obtain ⟨⟨t462, t463⟩, A320, H⟩ := H
    (try dsimp only at H)
    have A32 := mk_ A320
    clear A320
    by_cases c33 : (t455.length : Int) > 0
    rotate_left
    focus
     rw [if_neg c33] at H
     have c33b0 : decide (0 < (t455.length : Int)) = false := decide_eq_false c33
     have c33b1 : decide (0 < t455.length) = false := decide_eq_false (by omega)
     clear c33
     have H' := mk_ H
     clear H
    rotate_left
    focus
     rw [if_pos c33] at H
     have c33b0 : decide (0 < (t455.length : Int)) = true := decide_eq_true c33
     have c33b1 : decide (0 < t455.length) = true := decide_eq_true (by omega)
     clear c33
     replace H := Option.bind_eq_some_iff.mp H
     obtain ⟨⟨t464, t465⟩, A340, H⟩ := H
     replace H : (spec_l20Packet.j0 k a1 s0_0 t465 t443 t445 t447 t449 t451 t462 (t464 == 0) false t455) = some (r1, r2, r3, r4, r5, r6, r7, r8, r9, r10) := H
     have A34 := mk_ A340
     clear A340
     have H' := mk_ H
     clear H
    rotate_left
   rotate_left 2
  rotate_left 3
  all_goals
   go_wp2_with (first | ((with_reducible refine gate_callee (f := 58) rfl ?_); have hA_ := A32.out; refine goesL_ (some 29) rfl rfl Try.func58 (by kernel_rfl) rfl #[.pointer (some ⟨g, 0, none⟩), .int .i64 20] rfl (by (try simp only [lm_, lo_, ln_]); try rfl) ?_; (with_reducible refine (spec_l20Rd_pick.calls k g s0_0 t461 20 t462 t463 w0 _ ?side1 ?side2 A32.out).mono ?_); (case side1 => repeat (first | (with_reducible first | exact HI0.out | apply IsS93.alloc | apply IsS93.drewN | apply IsS93.drew | apply IsS93.set_1 | refine IsS93.far ?_ NB0_442.out _ | refine IsS93.far ?_ NB0_459.out _) | exact HI0.out)); (case side2 => repeat (first | (with_reducible first | exact HB.out | apply na_ | apply nn_ | apply nw_ | refine bs_ ?_ (IsS93.ge HI0.out) | refine bs_ ?_ GE442.out | refine bs_ ?_ GE459.out) | exact HB.out)); rintro e w10880 ⟨rfl, hi, hb, hk⟩; refine ⟨_, rfl, ?_⟩; replace BK442 := mk_ (KeepBut.blk hk (g' := gb442) (o := .cells #[.int .i64 0, .int .i64 0, .int .i64 0, .int .i64 0, .int .i64 0, .int .i64 0, .bool false, .bool false, .slice none 0 0] 52 (0, 0)) (u_ BK442.out) NB442_0.out (by simp)); replace HO457 := mk_ (Kd.R_mono (Kd.R_keep (IsS93.apart (show IsS93 w0 _ g s0_0 t461 from by repeat (first | (with_reducible first | exact HI0.out | apply IsS93.alloc | apply IsS93.drewN | apply IsS93.drew | apply IsS93.set_1 | refine IsS93.far ?_ NB0_442.out _ | refine IsS93.far ?_ NB0_459.out _) | exact HI0.out)) (Kd.ur_ HO457.out) (by decide)) hk (fun _ h => h.2)) (fun _ h => h.1)); replace BK459 := mk_ (KeepBut.blk hk (g' := gb459) (o := .cells #[.int .i64 t443, .int .i64 t445, .int .i64 t447, .int .i64 t449, .int .i64 t451, .int .i64 0, .bool false, .bool false, .slice Ao20 t455.length co20] 52 (0, 0)) (u_ BK459.out) NB459_0.out (by simp)); replace HK := mk_ (KeepBut.trans (by repeat (first | (with_reducible first | exact HK.out | apply KeepBut.set_ | apply keep_drewN | apply keep_drew | apply keep_alloc | refine keep_far ?_ GW442.out _ | refine keep_far ?_ GW459.out _) | exact HK.out)) hk (.inl rfl)); replace HB := mk_ (hb); replace HI0 := mk_ (hi); have hnb2470442459 := NB459_442.out; have hnc2470442459 := NB442_459.out; have hnb24700459 := NB459_0.out; have hnc24700459 := NB0_459.out; obtain ⟨hcz2470459_0, hcz2470459_1, hcz2470459_2, hcz2470459_3, hcz2470459_4, hcz2470459_5, hcz2470459_6, hcz2470459_7, hcz2470459_8, hfz2470459_0, hfz2470459_1, hfz2470459_2, hfz2470459_3, hfz2470459_4, hfz2470459_5, hfz2470459_6, hfz2470459_7, hfz2470459_8⟩ := cells9_ BK459.out; clear hA_ A32) | (go_at_call 58; have hA_ := A34.out; (with_reducible refine (spec_l20Rd_pick.calls k g s0_0 t463 2 t464 t465 w0 _ ?side1 ?side2 A34.out).mono ?_); (case side1 => repeat (first | (with_reducible first | exact HI0.out | apply IsS93.alloc | apply IsS93.drewN | apply IsS93.drew | apply IsS93.set_1 | refine IsS93.far ?_ NB0_442.out _ | refine IsS93.far ?_ NB0_459.out _) | exact HI0.out)); (case side2 => repeat (first | (with_reducible first | exact HB.out | apply na_ | apply nn_ | apply nw_ | refine bs_ ?_ (IsS93.ge HI0.out) | refine bs_ ?_ GE442.out | refine bs_ ?_ GE459.out) | exact HB.out)); rintro e w11440 ⟨rfl, hi, hb, hk⟩; replace BK442 := mk_ (KeepBut.blk hk (g' := gb442) (o := .cells #[.int .i64 0, .int .i64 0, .int .i64 0, .int .i64 0, .int .i64 0, .int .i64 0, .bool false, .bool false, .slice none 0 0] 52 (0, 0)) (uf_ BK442.out) NB442_0.out (by simp)); replace HO457 := mk_ (Kd.R_mono (Kd.R_keep (IsS93.apart (show IsS93 w0 _ g s0_0 t463 from by repeat (first | (with_reducible first | exact HI0.out | apply IsS93.alloc | apply IsS93.drewN | apply IsS93.drew | apply IsS93.set_1 | refine IsS93.far ?_ NB0_442.out _ | refine IsS93.far ?_ NB0_459.out _) | exact HI0.out)) (by (with_reducible repeat (first | apply Kd.R_alloc | apply Kd.R_drewN | apply Kd.R_drew)); exact (Kd.R_mono (Kd.R_far (p := ⟨gb459, 5, none⟩) (Kd.R_types HO457.out BK459.out (by decide)) (fun _ hk => hk.2) (.int .i64 t462)) (fun _ h_ => by first | exact h_.1 | simp only [h_, ne_eq, not_false_eq_true, and_self]))) (by decide)) hk (fun _ h => h.2)) (fun _ h => h.1)); replace BK459 := mk_ (KeepBut.blk hk (g' := gb459) (o := .cells #[.int .i64 t443, .int .i64 t445, .int .i64 t447, .int .i64 t449, .int .i64 t451, .int .i64 t462, .bool false, .bool false, .slice Ao20 t455.length co20] 52 (0, 0)) (by (with_reducible repeat (first | refine bn_ ?_ _ | refine bw_ ?_ | refine ba_ ?_ _)); refine blk_put (cs := #[.int .i64 t443, .int .i64 t445, .int .i64 t447, .int .i64 t449, .int .i64 t451, .int .i64 0, .bool false, .bool false, .slice Ao20 t455.length co20]) ?_ 5 _ rfl; (with_reducible repeat (first | refine bn_ ?_ _ | refine bw_ ?_ | refine ba_ ?_ _)); exact BK459.out) NB459_0.out (by simp)); replace HK := mk_ (KeepBut.trans (by repeat (first | (with_reducible first | exact HK.out | apply KeepBut.set_ | apply keep_drewN | apply keep_drew | apply keep_alloc | refine keep_far ?_ GW442.out _ | refine keep_far ?_ GW459.out _) | exact HK.out)) hk (.inl rfl)); replace HB := mk_ (hb); replace HI0 := mk_ (hi); obtain ⟨hcz2610459_0, hcz2610459_1, hcz2610459_2, hcz2610459_3, hcz2610459_4, hcz2610459_5, hcz2610459_6, hcz2610459_7, hcz2610459_8, hfz2610459_0, hfz2610459_1, hfz2610459_2, hfz2610459_3, hfz2610459_4, hfz2610459_5, hfz2610459_6, hfz2610459_7, hfz2610459_8⟩ := cells9_ BK459.out; clear hA_ A34))
   go_meet
  ·case rel => exact ⟨_, (t461), (0), (false), (true), H', ⟨by first | omega | exact Nat.le_refl _⟩, ⟨by (with_reducible repeat (first | apply Kd.R_alloc | apply Kd.R_drewN | apply Kd.R_drew)); exact Kd.R_mono (Kd.R_far (p := ⟨gb459, 7, none⟩) (Kd.R_types HO457.out BK459.out (by decide)) (fun _ hk => hk.2) (.bool true)) (fun _ hk => trivial)⟩, ⟨uf_ BK442.out⟩, ⟨by (with_reducible repeat (first | refine bn_ ?_ _ | refine bw_ ?_ | refine ba_ ?_ _)); refine blk_put (cs := #[.int .i64 t443, .int .i64 t445, .int .i64 t447, .int .i64 t449, .int .i64 t451, .int .i64 0, .bool false, .bool false, .slice Ao20 t455.length co20]) ?_ 7 _ rfl; (with_reducible repeat (first | refine bn_ ?_ _ | refine bw_ ?_ | refine ba_ ?_ _)); exact BK459.out⟩, ⟨by repeat (first | (with_reducible first | exact HI0.out | apply IsS93.alloc | apply IsS93.drewN | apply IsS93.drew | apply IsS93.set_1 | refine IsS93.far ?_ NB0_442.out _ | refine IsS93.far ?_ NB0_459.out _) | exact HI0.out)⟩, ⟨by repeat (first | (with_reducible first | exact HK.out | apply KeepBut.set_ | apply keep_drewN | apply keep_drew | apply keep_alloc | refine keep_far ?_ GW442.out _ | refine keep_far ?_ GW459.out _) | exact HK.out)⟩, ⟨by repeat (first | (with_reducible first | exact HB.out | apply na_ | apply nn_ | apply nw_ | refine bs_ ?_ (IsS93.ge HI0.out) | refine bs_ ?_ GE442.out | refine bs_ ?_ GE459.out) | exact HB.out)⟩⟩
  ·case rel => exact ⟨_, (t461), (0), (false), (false), H', ⟨by first | omega | exact Nat.le_refl _⟩, ⟨Kd.ur_ HO457.out⟩, ⟨u_ BK442.out⟩, ⟨u_ BK459.out⟩, ⟨by repeat (first | (with_reducible first | exact HI0.out | apply IsS93.alloc | apply IsS93.drewN | apply IsS93.drew | apply IsS93.set_1 | refine IsS93.far ?_ NB0_442.out _ | refine IsS93.far ?_ NB0_459.out _) | exact HI0.out)⟩, ⟨by repeat (first | (with_reducible first | exact HK.out | apply KeepBut.set_ | apply keep_drewN | apply keep_drew | apply keep_alloc | refine keep_far ?_ GW442.out _ | refine keep_far ?_ GW459.out _) | exact HK.out)⟩, ⟨by repeat (first | (with_reducible first | exact HB.out | apply na_ | apply nn_ | apply nw_ | refine bs_ ?_ (IsS93.ge HI0.out) | refine bs_ ?_ GE442.out | refine bs_ ?_ GE459.out) | exact HB.out)⟩⟩
  ·case rel => exact ⟨_, (t463), (t462), (false), (false), H', ⟨by first | omega | exact Nat.le_refl _⟩, ⟨by (with_reducible repeat (first | apply Kd.R_alloc | apply Kd.R_drewN | apply Kd.R_drew)); exact Kd.R_mono (Kd.R_far (p := ⟨gb459, 6, none⟩) (Kd.R_far (p := ⟨gb459, 5, none⟩) (Kd.R_types HO457.out BK459.out (by decide)) (fun _ hk => hk.2) (.int .i64 t462)) (fun _ hk => hk.2) (.bool false)) (fun _ hk => trivial)⟩, ⟨uf_ BK442.out⟩, ⟨by (with_reducible repeat (first | refine bn_ ?_ _ | refine bw_ ?_ | refine ba_ ?_ _)); refine blk_put (cs := #[.int .i64 t443, .int .i64 t445, .int .i64 t447, .int .i64 t449, .int .i64 t451, .int .i64 t462, .bool false, .bool false, .slice Ao20 t455.length co20]) ?_ 6 _ rfl; (with_reducible repeat (first | refine bn_ ?_ _ | refine bw_ ?_ | refine ba_ ?_ _)); refine blk_put (cs := #[.int .i64 t443, .int .i64 t445, .int .i64 t447, .int .i64 t449, .int .i64 t451, .int .i64 0, .bool false, .bool false, .slice Ao20 t455.length co20]) ?_ 5 _ rfl; (with_reducible repeat (first | refine bn_ ?_ _ | refine bw_ ?_ | refine ba_ ?_ _)); exact BK459.out⟩, ⟨by repeat (first | (with_reducible first | exact HI0.out | apply IsS93.alloc | apply IsS93.drewN | apply IsS93.drew | apply IsS93.set_1 | refine IsS93.far ?_ NB0_442.out _ | refine IsS93.far ?_ NB0_459.out _) | exact HI0.out)⟩, ⟨by repeat (first | (with_reducible first | exact HK.out | apply KeepBut.set_ | apply keep_drewN | apply keep_drew | apply keep_alloc | refine keep_far ?_ GW442.out _ | refine keep_far ?_ GW459.out _) | exact HK.out)⟩, ⟨by repeat (first | (with_reducible first | exact HB.out | apply na_ | apply nn_ | apply nw_ | refine bs_ ?_ (IsS93.ge HI0.out) | refine bs_ ?_ GE442.out | refine bs_ ?_ GE459.out) | exact HB.out)⟩⟩
  ·case rel => exact ⟨_, (t465), (t462), ((t464 == 0)), (false), H', ⟨by first | omega | exact Nat.le_refl _⟩, ⟨by (with_reducible repeat (first | apply Kd.R_alloc | apply Kd.R_drewN | apply Kd.R_drew)); exact Kd.R_mono (Kd.R_far (p := ⟨gb459, 6, none⟩) (Kd.R_types HO457.out BK459.out (by decide)) (fun _ hk => hk.2) (.bool (t464 == 0))) (fun _ hk => trivial)⟩, ⟨uf_ BK442.out⟩, ⟨by (with_reducible repeat (first | refine bn_ ?_ _ | refine bw_ ?_ | refine ba_ ?_ _)); refine blk_put (cs := #[.int .i64 t443, .int .i64 t445, .int .i64 t447, .int .i64 t449, .int .i64 t451, .int .i64 t462, .bool false, .bool false, .slice Ao20 t455.length co20]) ?_ 6 _ rfl; (with_reducible repeat (first | refine bn_ ?_ _ | refine bw_ ?_ | refine ba_ ?_ _)); exact BK459.out⟩, ⟨by repeat (first | (with_reducible first | exact HI0.out | apply IsS93.alloc | apply IsS93.drewN | apply IsS93.drew | apply IsS93.set_1 | refine IsS93.far ?_ NB0_442.out _ | refine IsS93.far ?_ NB0_459.out _) | exact HI0.out)⟩, ⟨by repeat (first | (with_reducible first | exact HK.out | apply KeepBut.set_ | apply keep_drewN | apply keep_drew | apply keep_alloc | refine keep_far ?_ GW442.out _ | refine keep_far ?_ GW459.out _) | exact HK.out)⟩, ⟨by repeat (first | (with_reducible first | exact HB.out | apply na_ | apply nn_ | apply nw_ | refine bs_ ?_ (IsS93.ge HI0.out) | refine bs_ ?_ GE442.out | refine bs_ ?_ GE459.out) | exact HB.out)⟩⟩
 case rest =>
  clear HC11
  try clear c2
  try clear p2
  try clear c3
  try clear c4
  try clear c5
  try clear c7
  try clear c9
  try clear c22
  try clear c23
  try clear c27
  try clear c27b0
  try clear c27b1
  try clear c28
  try clear c29
  try clear c31
  try clear c31b0
  try clear c31b1
  try clear c33
  try clear c33b0
  try clear c33b1
  try clear c36
  try clear c37
  try clear c42
  try clear c43
  try clear hcz24_0
  try clear hcz24_1
  try clear hcz24_2
  try clear hcz24_3
  try clear hcz24_4
  try clear hcz24_5
  try clear hcz24_6
  try clear hcz24_7
  try clear hcz24_8
  try clear hcz30_0
  try clear hcz30_1
  try clear hcz30_2
  try clear hcz30_3
  try clear hcz30_4
  try clear hcz30_5
  try clear hcz30_6
  try clear hcz30_7
  try clear hcz30_8
  try clear hcz38_0
  try clear hcz38_1
  try clear hcz38_2
  try clear hcz38_3
  try clear hcz38_4
  try clear hcz38_5
  try clear hcz38_6
  try clear hcz38_7
  try clear hcz38_8
  try clear hcz40_0
  try clear hcz40_1
  try clear hcz40_2
  try clear hcz40_3
  try clear hcz40_4
  try clear hcz40_5
  try clear hcz40_6
  try clear hcz40_7
  try clear hcz40_8
  try clear hcz44_0
  try clear hcz44_1
  try clear hcz44_2
  try clear hcz44_3
  try clear hcz44_4
  try clear hcz44_5
  try clear hcz44_6
  try clear hcz44_7
  try clear hcz44_8
  try clear hfz24_0
  try clear hfz24_1
  try clear hfz24_2
  try clear hfz24_3
  try clear hfz24_4
  try clear hfz24_5
  try clear hfz24_6
  try clear hfz24_7
  try clear hfz24_8
  try clear hfz30_0
  try clear hfz30_1
  try clear hfz30_2
  try clear hfz30_3
  try clear hfz30_4
  try clear hfz30_5
  try clear hfz30_6
  try clear hfz30_7
  try clear hfz30_8
  try clear hfz38_0
  try clear hfz38_1
  try clear hfz38_2
  try clear hfz38_3
  try clear hfz38_4
  try clear hfz38_5
  try clear hfz38_6
  try clear hfz38_7
  try clear hfz38_8
  try clear hfz40_0
  try clear hfz40_1
  try clear hfz40_2
  try clear hfz40_3
  try clear hfz40_4
  try clear hfz40_5
  try clear hfz40_6
  try clear hfz40_7
  try clear hfz40_8
  try clear hfz44_0
  try clear hfz44_1
  try clear hfz44_2
  try clear hfz44_3
  try clear hfz44_4
  try clear hfz44_5
  try clear hfz44_6
  try clear hfz44_7
  try clear hfz44_8
  obtain ⟨kq, x1001_10, x460005_10, x460006_10, x460007_10, HA, HJ10, HO_460008, BK442, BK459, HI0, HK, HB⟩ := hcut
  cases kq with
  | zero => exact absurd HA.out (by simp [spec_l20Packet.j0])
  | succ kj10 =>
   have H := HA.out
   clear HA
   simp only [spec_l20Packet.j0] at H
   replace H := Option.bind_eq_some_iff.mp H
   obtain ⟨⟨t466, t467⟩, A450, H⟩ := H
   (try dsimp only at H)
   have A45 := mk_ A450
   clear A450
   by_cases c46 : t466 = true
   rotate_left
   focus
    replace c46 := Bool.eq_false_iff.mpr c46
    subst c46
    rw [if_neg (show ¬ (false = true) by decide)] at H
    simp only [Option.some.injEq, Prod.mk.injEq] at H
    obtain ⟨rfl, rfl, rfl, rfl, rfl, rfl, rfl, rfl, rfl, rfl⟩ := H
   rotate_left
   focus
    subst c46
    rw [if_pos rfl] at H
    replace H := Option.bind_eq_some_iff.mp H
    obtain ⟨⟨t468, t469⟩, A470, H⟩ := H
    (try dsimp only at H)
    have A47 := mk_ A470
    clear A470
    by_cases c48 : t468 = 0
    focus
     rw [if_pos c48] at H
     have c48b0 : (t468 == 0) = true := beq_iff_eq.mpr c48
     have c48b1 : (t468 != 0) = false := bne_eq_false_iff_eq.mpr c48
     clear c48
     replace H := Option.bind_eq_some_iff.mp H
     obtain ⟨⟨t470, t471⟩, A490, H⟩ := H
     (try dsimp only at H)
     have A49 := mk_ A490
     clear A490
     simp only [Option.some.injEq, Prod.mk.injEq] at H
     obtain ⟨rfl, rfl, rfl, rfl, rfl, rfl, rfl, rfl, rfl, rfl⟩ := H
    rotate_left
    focus
     rw [if_neg c48] at H
     have c48b0 : (t468 == 0) = false := beq_eq_false_iff_ne.mpr c48
     have c48b1 : (t468 != 0) = true := bne_iff_ne.mpr c48
     by_cases c59 : t468 = 1
     focus
      rw [if_pos c59] at H
      have c59b0 : (t468 == 1) = true := beq_iff_eq.mpr c59
      have c59b1 : (t468 != 1) = false := bne_eq_false_iff_eq.mpr c59
      clear c59
      replace H := Option.bind_eq_some_iff.mp H
      obtain ⟨⟨t472, t473⟩, A600, H⟩ := H
      (try dsimp only at H)
      have A60 := mk_ A600
      clear A600
      simp only [Option.some.injEq, Prod.mk.injEq] at H
      obtain ⟨rfl, rfl, rfl, rfl, rfl, rfl, rfl, rfl, rfl, rfl⟩ := H
     rotate_left
     focus
      rw [if_neg c59] at H
      have c59b0 : (t468 == 1) = false := beq_eq_false_iff_ne.mpr c59
      have c59b1 : (t468 != 1) = true := bne_iff_ne.mpr c59
      by_cases c70 : t468 = 2
      focus
       rw [if_pos c70] at H
       have c70b0 : (t468 == 2) = true := beq_iff_eq.mpr c70
       have c70b1 : (t468 != 2) = false := bne_eq_false_iff_eq.mpr c70
       clear c70
       by_cases c71 : 49 ≤ 281474976710656
       rotate_left
       ·rw [if_neg c71] at H
        exact absurd H (by simp)
       rw [if_pos c71] at H
       have c71b0 := eq_true c71
       have c71b1 : decide (49 ≤ 281474976710656) = true := decide_eq_true c71
       clear c71
       obtain ⟨y474, hy474⟩ : ∃ y_ : List Int, y_ = (List.replicate 49 0) := ⟨_, rfl⟩
       replace H : (some (t443, t445, t447, t449, t451, x460005_10, x460006_10, x460007_10, y474, t469)) = some (r1, r2, r3, r4, r5, r6, r7, r8, r9, r10) := by first | (rw [hy474]; with_reducible exact H) | (have H2_ := (Option.bind_some _ _).symm.trans H; rw [hy474]; with_reducible exact H2_) | (have H2_ := (Option.bind_some _ _).symm.trans H; with_reducible exact H2_) | with_reducible exact H | (rw [hy474]; exact H) | exact H
       have Ny474 := mk_ hy474
       clear hy474
       simp only [Option.some.injEq, Prod.mk.injEq] at H
       obtain ⟨rfl, rfl, rfl, rfl, rfl, rfl, rfl, rfl, rfl, rfl⟩ := H
      rotate_left
      focus
       rw [if_neg c70] at H
       have c70b0 : (t468 == 2) = false := beq_eq_false_iff_ne.mpr c70
       have c70b1 : (t468 != 2) = true := bne_iff_ne.mpr c70
       by_cases c83 : t468 = 3
       rotate_left
       focus
        rw [if_neg c83] at H
        have c83b0 : (t468 == 3) = false := beq_eq_false_iff_ne.mpr c83
        have c83b1 : (t468 != 3) = true := bne_iff_ne.mpr c83
        simp only [Option.some.injEq, Prod.mk.injEq] at H
        obtain ⟨rfl, rfl, rfl, rfl, rfl, rfl, rfl, rfl, rfl, rfl⟩ := H
       rotate_left
       focus
        rw [if_pos c83] at H
        have c83b0 : (t468 == 3) = true := beq_iff_eq.mpr c83
        have c83b1 : (t468 != 3) = false := bne_eq_false_iff_eq.mpr c83
        clear c83
        simp only [Option.some.injEq, Prod.mk.injEq] at H
        obtain ⟨rfl, rfl, rfl, rfl, rfl, rfl, rfl, rfl, rfl, rfl⟩ := H
       rotate_left
      rotate_left 2
     rotate_left 3
    rotate_left 4
   rotate_left 5
   have z9_ := trivial
   rotate_left
   have z10_ := trivial
   rotate_left
   have z11_ := trivial
   rotate_left
   have z12_ := trivial
   rotate_left
   have z13_ := trivial
   rotate_left
   have z14_ := trivial
   rotate_left
   all_goals
    go_wp2_with (first | ((with_reducible refine gate_callee (f := 80) rfl ?_); refine goesL_ (some 43) rfl rfl Try.func80 (by kernel_rfl) rfl #[.pointer (some ⟨g, 0, none⟩), .int .i64 a1] rfl (by (try simp only [lm_, lo_, ln_]); try rfl) ?_; (with_reducible refine (spec_l20Rd_odd.calls kj10 g s0_0 x1001_10 a1 false t467 w0 _ ?side1 ?side2 A45.out).mono ?_); (case side1 => repeat (first | (with_reducible first | exact HI0.out | apply IsS93.alloc | apply IsS93.drewN | apply IsS93.drew | apply IsS93.set_1 | refine IsS93.far ?_ NB0_442.out _ | refine IsS93.far ?_ NB0_459.out _) | exact HI0.out)); (case side2 => repeat (first | (with_reducible first | exact HB.out | apply na_ | apply nn_ | apply nw_ | refine bs_ ?_ (IsS93.ge HI0.out) | refine bs_ ?_ GE442.out | refine bs_ ?_ GE459.out) | exact HB.out)); rintro e w11520 ⟨rfl, hi, hb, hk⟩; refine ⟨_, rfl, ?_⟩; replace HO_460008 := mk_ (Kd.R_mono (Kd.R_keep (IsS93.apart (show IsS93 w0 _ g s0_0 x1001_10 from by repeat (first | (with_reducible first | exact HI0.out | apply IsS93.alloc | apply IsS93.drewN | apply IsS93.drew | apply IsS93.set_1 | refine IsS93.far ?_ NB0_442.out _ | refine IsS93.far ?_ NB0_459.out _) | exact HI0.out)) (Kd.ur_ HO_460008.out) (by decide)) hk (fun _ h => h.2)) (fun _ h => h.1)); replace BK442 := mk_ (KeepBut.blk hk (g' := gb442) (o := .cells #[.int .i64 0, .int .i64 0, .int .i64 0, .int .i64 0, .int .i64 0, .int .i64 0, .bool false, .bool false, .slice none 0 0] 52 (0, 0)) (u_ BK442.out) NB442_0.out (by simp)); replace BK459 := mk_ (KeepBut.blk hk (g' := gb459) (o := .cells #[.int .i64 t443, .int .i64 t445, .int .i64 t447, .int .i64 t449, .int .i64 t451, .int .i64 x460005_10, .bool x460006_10, .bool x460007_10, .slice Ao20 t455.length co20] 52 (0, 0)) (u_ BK459.out) NB459_0.out (by simp)); replace HK := mk_ (KeepBut.trans (by repeat (first | (with_reducible first | exact HK.out | apply KeepBut.set_ | apply keep_drewN | apply keep_drew | apply keep_alloc | refine keep_far ?_ GW442.out _ | refine keep_far ?_ GW459.out _) | exact HK.out)) hk (.inl rfl)); replace HB := mk_ (hb); replace HI0 := mk_ (hi); have hnb2630442459 := NB459_442.out; have hnc2630442459 := NB442_459.out; have hnb26300459 := NB459_0.out; have hnc26300459 := NB0_459.out; obtain ⟨_, _, _, _, _, _, _, _, _, _, _, _, _, _, _, _, _, _⟩ := cells9_ BK459.out; have hnb26300442 := NB442_0.out; have hnc26300442 := NB0_442.out; obtain ⟨_, _, _, _, _, _, _, _, _, _, _, _, _, _, _, _, _, _⟩ := cells9_ BK442.out) | ((with_reducible refine gate_callee (f := 80) rfl ?_); refine goesL_ (some 43) rfl rfl Try.func80 (by kernel_rfl) rfl #[.pointer (some ⟨g, 0, none⟩), .int .i64 a1] rfl (by (try simp only [lm_, lo_, ln_]); try rfl) ?_; (with_reducible refine (spec_l20Rd_odd.calls kj10 g s0_0 x1001_10 a1 true t467 w0 _ ?side1 ?side2 A45.out).mono ?_); (case side1 => repeat (first | (with_reducible first | exact HI0.out | apply IsS93.alloc | apply IsS93.drewN | apply IsS93.drew | apply IsS93.set_1 | refine IsS93.far ?_ NB0_442.out _ | refine IsS93.far ?_ NB0_459.out _) | exact HI0.out)); (case side2 => repeat (first | (with_reducible first | exact HB.out | apply na_ | apply nn_ | apply nw_ | refine bs_ ?_ (IsS93.ge HI0.out) | refine bs_ ?_ GE442.out | refine bs_ ?_ GE459.out) | exact HB.out)); rintro e w11520 ⟨rfl, hi, hb, hk⟩; refine ⟨_, rfl, ?_⟩; replace HO_460008 := mk_ (Kd.R_mono (Kd.R_keep (IsS93.apart (show IsS93 w0 _ g s0_0 x1001_10 from by repeat (first | (with_reducible first | exact HI0.out | apply IsS93.alloc | apply IsS93.drewN | apply IsS93.drew | apply IsS93.set_1 | refine IsS93.far ?_ NB0_442.out _ | refine IsS93.far ?_ NB0_459.out _) | exact HI0.out)) (Kd.ur_ HO_460008.out) (by decide)) hk (fun _ h => h.2)) (fun _ h => h.1)); replace BK442 := mk_ (KeepBut.blk hk (g' := gb442) (o := .cells #[.int .i64 0, .int .i64 0, .int .i64 0, .int .i64 0, .int .i64 0, .int .i64 0, .bool false, .bool false, .slice none 0 0] 52 (0, 0)) (u_ BK442.out) NB442_0.out (by simp)); replace BK459 := mk_ (KeepBut.blk hk (g' := gb459) (o := .cells #[.int .i64 t443, .int .i64 t445, .int .i64 t447, .int .i64 t449, .int .i64 t451, .int .i64 x460005_10, .bool x460006_10, .bool x460007_10, .slice Ao20 t455.length co20] 52 (0, 0)) (u_ BK459.out) NB459_0.out (by simp)); replace HK := mk_ (KeepBut.trans (by repeat (first | (with_reducible first | exact HK.out | apply KeepBut.set_ | apply keep_drewN | apply keep_drew | apply keep_alloc | refine keep_far ?_ GW442.out _ | refine keep_far ?_ GW459.out _) | exact HK.out)) hk (.inl rfl)); replace HB := mk_ (hb); replace HI0 := mk_ (hi)) | (have zz_ := z9_; clear zz_; (with_reducible refine gate_store (t := 52) (p := 4) rfl ?_); refine store_event (t := 52) (p := 4) (v := ?_) (w1 := ?_) ?hg ?ho ?hn ?hr ?_; (case ho => rfl); (case hg => rfl); (case hn => rfl); (case hr => first | (go_simp; done) | (go_simp; rfl)); intro w11560 hw; have n0_ : Aside0 (Kd.R (Kd.int .u8) 5 w11560 w.heap.size (fun _ => True) (.slice Ao20 t455.length co20) t455) := ⟨(by rw [hw]; exact (by (with_reducible repeat (first | apply Kd.R_alloc | apply Kd.R_drewN | apply Kd.R_drew)); exact Kd.R_mono (Kd.R_far9 (g := gb442) (Kd.R_types HO_460008.out BK442.out (by decide)) (fun _ hk => hk.2) _ _ _ _ _ _ _ _ _) (fun _ hk => trivial)))⟩; have n1_ : Aside0 (w11560.heap[gb442]? = some (.cells #[.int .i64 t443, .int .i64 t445, .int .i64 t447, .int .i64 t449, .int .i64 t451, .int .i64 x460005_10, .bool x460006_10, .bool x460007_10, .slice Ao20 t455.length co20] 52 (0, 0))) := ⟨(by rw [hw]; exact (by (with_reducible repeat (first | refine bn_ ?_ _ | refine bw_ ?_ | refine ba_ ?_ _)); with_reducible apply blk_put9; (with_reducible repeat (first | refine bn_ ?_ _ | refine bw_ ?_ | refine ba_ ?_ _)); exact BK442.out))⟩; have n2_ : Aside0 (w11560.heap[gb459]? = some (.cells #[.int .i64 t443, .int .i64 t445, .int .i64 t447, .int .i64 t449, .int .i64 t451, .int .i64 x460005_10, .bool x460006_10, .bool x460007_10, .slice Ao20 t455.length co20] 52 (0, 0))) := ⟨(by rw [hw]; exact (uf_ BK459.out))⟩; have n3_ : Aside0 (IsS93 w0 w11560 g s0_0 t467) := ⟨(by rw [hw]; exact (by repeat (first | (with_reducible first | exact HI0.out | apply IsS93.alloc | apply IsS93.drewN | apply IsS93.drew | apply IsS93.set_1 | refine IsS93.far ?_ NB0_442.out _ | refine IsS93.far ?_ NB0_459.out _) | exact HI0.out)))⟩; have n4_ : Aside0 (KeepBut w w11560 g none) := ⟨(by rw [hw]; exact (by repeat (first | (with_reducible first | exact HK.out | apply KeepBut.set_ | apply keep_drewN | apply keep_drew | apply keep_alloc | refine keep_far ?_ GW442.out _ | refine keep_far ?_ GW459.out _) | exact HK.out)))⟩; have n5_ : Aside0 (Below w0.heap.size w0 w11560) := ⟨(by rw [hw]; exact (by repeat (first | (with_reducible first | exact HB.out | apply na_ | apply nn_ | apply nw_ | refine bs_ ?_ (IsS93.ge HI0.out) | refine bs_ ?_ GE442.out | refine bs_ ?_ GE459.out) | exact HB.out)))⟩; clear hw; clear HO_460008; clear BK442; clear BK459; clear HI0; clear HK; clear HB; have HO_460008 := n0_; have BK442 := n1_; have BK459 := n2_; have HI0 := n3_; have HK := n4_; have HB := n5_; clear n0_ n1_ n2_ n3_ n4_ n5_) | (have zz_ := z10_; clear zz_; (with_reducible refine gate_store (t := 52) (p := 4) rfl ?_); refine store_event (t := 52) (p := 4) (v := ?_) (w1 := ?_) ?hg ?ho ?hn ?hr ?_; (case ho => rfl); (case hg => rfl); (case hn => rfl); (case hr => first | (go_simp; done) | (go_simp; rfl)); intro w11560 hw; have n0_ : Aside0 (Kd.R (Kd.int .u8) 5 w11560 w.heap.size (fun _ => True) (.slice Ao20 t455.length co20) t455) := ⟨(by rw [hw]; exact (by (with_reducible repeat (first | apply Kd.R_alloc | apply Kd.R_drewN | apply Kd.R_drew)); exact Kd.R_mono (Kd.R_far9 (g := gb442) (Kd.R_far (p := ⟨gb459, 1, none⟩) (Kd.R_types (Kd.R_types HO_460008.out BK459.out (by decide)) BK442.out (by decide)) (fun _ hk => hk.1.2) (.int .i64 (wrap64 (65536 - (wrap64 (t470 * 65540)))))) (fun _ hk => hk.2) _ _ _ _ _ _ _ _ _) (fun _ hk => trivial)))⟩; have n1_ : Aside0 (w11560.heap[gb442]? = some (.cells #[.int .i64 t443, .int .i64 (wrap64 (65536 - (wrap64 (t470 * 65540)))), .int .i64 t447, .int .i64 t449, .int .i64 t451, .int .i64 x460005_10, .bool x460006_10, .bool x460007_10, .slice Ao20 t455.length co20] 52 (0, 0))) := ⟨(by rw [hw]; exact (by (with_reducible repeat (first | refine bn_ ?_ _ | refine bw_ ?_ | refine ba_ ?_ _)); with_reducible apply blk_put9; (with_reducible repeat (first | refine bn_ ?_ _ | refine bw_ ?_ | refine ba_ ?_ _)); refine blk_far ?_ NB442_459.out _; (with_reducible repeat (first | refine bn_ ?_ _ | refine bw_ ?_ | refine ba_ ?_ _)); exact BK442.out))⟩; have n2_ : Aside0 (w11560.heap[gb459]? = some (.cells #[.int .i64 t443, .int .i64 (wrap64 (65536 - (wrap64 (t470 * 65540)))), .int .i64 t447, .int .i64 t449, .int .i64 t451, .int .i64 x460005_10, .bool x460006_10, .bool x460007_10, .slice Ao20 t455.length co20] 52 (0, 0))) := ⟨(by rw [hw]; exact (by (with_reducible repeat (first | refine bn_ ?_ _ | refine bw_ ?_ | refine ba_ ?_ _)); refine blk_far ?_ NB459_442.out _; (with_reducible repeat (first | refine bn_ ?_ _ | refine bw_ ?_ | refine ba_ ?_ _)); refine blk_far ?_ NB459_442.out _; (with_reducible repeat (first | refine bn_ ?_ _ | refine bw_ ?_ | refine ba_ ?_ _)); refine blk_far ?_ NB459_442.out _; (with_reducible repeat (first | refine bn_ ?_ _ | refine bw_ ?_ | refine ba_ ?_ _)); refine blk_far ?_ NB459_442.out _; (with_reducible repeat (first | refine bn_ ?_ _ | refine bw_ ?_ | refine ba_ ?_ _)); refine blk_far ?_ NB459_442.out _; (with_reducible repeat (first | refine bn_ ?_ _ | refine bw_ ?_ | refine ba_ ?_ _)); refine blk_far ?_ NB459_442.out _; (with_reducible repeat (first | refine bn_ ?_ _ | refine bw_ ?_ | refine ba_ ?_ _)); refine blk_far ?_ NB459_442.out _; (with_reducible repeat (first | refine bn_ ?_ _ | refine bw_ ?_ | refine ba_ ?_ _)); refine blk_far ?_ NB459_442.out _; (with_reducible repeat (first | refine bn_ ?_ _ | refine bw_ ?_ | refine ba_ ?_ _)); refine blk_far ?_ NB459_442.out _; (with_reducible repeat (first | refine bn_ ?_ _ | refine bw_ ?_ | refine ba_ ?_ _)); refine blk_put (cs := #[.int .i64 t443, .int .i64 t445, .int .i64 t447, .int .i64 t449, .int .i64 t451, .int .i64 x460005_10, .bool x460006_10, .bool x460007_10, .slice Ao20 t455.length co20]) ?_ 1 _ rfl; (with_reducible repeat (first | refine bn_ ?_ _ | refine bw_ ?_ | refine ba_ ?_ _)); exact BK459.out))⟩; have n3_ : Aside0 (IsS93 w0 w11560 g s0_0 t471) := ⟨(by rw [hw]; exact (by repeat (first | (with_reducible first | exact HI0.out | apply IsS93.alloc | apply IsS93.drewN | apply IsS93.drew | apply IsS93.set_1 | refine IsS93.far ?_ NB0_442.out _ | refine IsS93.far ?_ NB0_459.out _) | exact HI0.out)))⟩; have n4_ : Aside0 (KeepBut w w11560 g none) := ⟨(by rw [hw]; exact (by repeat (first | (with_reducible first | exact HK.out | apply KeepBut.set_ | apply keep_drewN | apply keep_drew | apply keep_alloc | refine keep_far ?_ GW442.out _ | refine keep_far ?_ GW459.out _) | exact HK.out)))⟩; have n5_ : Aside0 (Below w0.heap.size w0 w11560) := ⟨(by rw [hw]; exact (by repeat (first | (with_reducible first | exact HB.out | apply na_ | apply nn_ | apply nw_ | refine bs_ ?_ (IsS93.ge HI0.out) | refine bs_ ?_ GE442.out | refine bs_ ?_ GE459.out) | exact HB.out)))⟩; clear hw; clear HO_460008; clear BK442; clear BK459; clear HI0; clear HK; clear HB; have HO_460008 := n0_; have BK442 := n1_; have BK459 := n2_; have HI0 := n3_; have HK := n4_; have HB := n5_; clear n0_ n1_ n2_ n3_ n4_ n5_) | (have zz_ := z11_; clear zz_; (with_reducible refine gate_store (t := 52) (p := 4) rfl ?_); refine store_event (t := 52) (p := 4) (v := ?_) (w1 := ?_) ?hg ?ho ?hn ?hr ?_; (case ho => rfl); (case hg => rfl); (case hn => rfl); (case hr => first | (go_simp; done) | (go_simp; rfl)); intro w11560 hw; have n0_ : Aside0 (Kd.R (Kd.int .u8) 5 w11560 w.heap.size (fun _ => True) (.slice Ao20 t455.length co20) t455) := ⟨(by rw [hw]; exact (by (with_reducible repeat (first | apply Kd.R_alloc | apply Kd.R_drewN | apply Kd.R_drew)); exact Kd.R_mono (Kd.R_far9 (g := gb442) (Kd.R_far (p := ⟨gb459, 3, none⟩) (Kd.R_types (Kd.R_types HO_460008.out BK459.out (by decide)) BK442.out (by decide)) (fun _ hk => hk.1.2) (.int .i64 (wrap64 (256 - (wrap64 (t472 * 300)))))) (fun _ hk => hk.2) _ _ _ _ _ _ _ _ _) (fun _ hk => trivial)))⟩; have n1_ : Aside0 (w11560.heap[gb442]? = some (.cells #[.int .i64 t443, .int .i64 t445, .int .i64 t447, .int .i64 (wrap64 (256 - (wrap64 (t472 * 300)))), .int .i64 t451, .int .i64 x460005_10, .bool x460006_10, .bool x460007_10, .slice Ao20 t455.length co20] 52 (0, 0))) := ⟨(by rw [hw]; exact (by (with_reducible repeat (first | refine bn_ ?_ _ | refine bw_ ?_ | refine ba_ ?_ _)); with_reducible apply blk_put9; (with_reducible repeat (first | refine bn_ ?_ _ | refine bw_ ?_ | refine ba_ ?_ _)); refine blk_far ?_ NB442_459.out _; (with_reducible repeat (first | refine bn_ ?_ _ | refine bw_ ?_ | refine ba_ ?_ _)); exact BK442.out))⟩; have n2_ : Aside0 (w11560.heap[gb459]? = some (.cells #[.int .i64 t443, .int .i64 t445, .int .i64 t447, .int .i64 (wrap64 (256 - (wrap64 (t472 * 300)))), .int .i64 t451, .int .i64 x460005_10, .bool x460006_10, .bool x460007_10, .slice Ao20 t455.length co20] 52 (0, 0))) := ⟨(by rw [hw]; exact (by (with_reducible repeat (first | refine bn_ ?_ _ | refine bw_ ?_ | refine ba_ ?_ _)); refine blk_far ?_ NB459_442.out _; (with_reducible repeat (first | refine bn_ ?_ _ | refine bw_ ?_ | refine ba_ ?_ _)); refine blk_far ?_ NB459_442.out _; (with_reducible repeat (first | refine bn_ ?_ _ | refine bw_ ?_ | refine ba_ ?_ _)); refine blk_far ?_ NB459_442.out _; (with_reducible repeat (first | refine bn_ ?_ _ | refine bw_ ?_ | refine ba_ ?_ _)); refine blk_far ?_ NB459_442.out _; (with_reducible repeat (first | refine bn_ ?_ _ | refine bw_ ?_ | refine ba_ ?_ _)); refine blk_far ?_ NB459_442.out _; (with_reducible repeat (first | refine bn_ ?_ _ | refine bw_ ?_ | refine ba_ ?_ _)); refine blk_far ?_ NB459_442.out _; (with_reducible repeat (first | refine bn_ ?_ _ | refine bw_ ?_ | refine ba_ ?_ _)); refine blk_far ?_ NB459_442.out _; (with_reducible repeat (first | refine bn_ ?_ _ | refine bw_ ?_ | refine ba_ ?_ _)); refine blk_far ?_ NB459_442.out _; (with_reducible repeat (first | refine bn_ ?_ _ | refine bw_ ?_ | refine ba_ ?_ _)); refine blk_far ?_ NB459_442.out _; (with_reducible repeat (first | refine bn_ ?_ _ | refine bw_ ?_ | refine ba_ ?_ _)); refine blk_put (cs := #[.int .i64 t443, .int .i64 t445, .int .i64 t447, .int .i64 t449, .int .i64 t451, .int .i64 x460005_10, .bool x460006_10, .bool x460007_10, .slice Ao20 t455.length co20]) ?_ 3 _ rfl; (with_reducible repeat (first | refine bn_ ?_ _ | refine bw_ ?_ | refine ba_ ?_ _)); exact BK459.out))⟩; have n3_ : Aside0 (IsS93 w0 w11560 g s0_0 t473) := ⟨(by rw [hw]; exact (by repeat (first | (with_reducible first | exact HI0.out | apply IsS93.alloc | apply IsS93.drewN | apply IsS93.drew | apply IsS93.set_1 | refine IsS93.far ?_ NB0_442.out _ | refine IsS93.far ?_ NB0_459.out _) | exact HI0.out)))⟩; have n4_ : Aside0 (KeepBut w w11560 g none) := ⟨(by rw [hw]; exact (by repeat (first | (with_reducible first | exact HK.out | apply KeepBut.set_ | apply keep_drewN | apply keep_drew | apply keep_alloc | refine keep_far ?_ GW442.out _ | refine keep_far ?_ GW459.out _) | exact HK.out)))⟩; have n5_ : Aside0 (Below w0.heap.size w0 w11560) := ⟨(by rw [hw]; exact (by repeat (first | (with_reducible first | exact HB.out | apply na_ | apply nn_ | apply nw_ | refine bs_ ?_ (IsS93.ge HI0.out) | refine bs_ ?_ GE442.out | refine bs_ ?_ GE459.out) | exact HB.out)))⟩; clear hw; clear HO_460008; clear BK442; clear BK459; clear HI0; clear HK; clear HB; have HO_460008 := n0_; have BK442 := n1_; have BK459 := n2_; have HI0 := n3_; have HK := n4_; have HB := n5_; clear n0_ n1_ n2_ n3_ n4_ n5_) | (have zz_ := z12_; clear zz_; (with_reducible refine gate_store (t := 52) (p := 4) rfl ?_); refine store_event (t := 52) (p := 4) (v := ?_) (w1 := ?_) ?hg ?ho ?hn ?hr ?_; (case ho => rfl); (case hg => rfl); (case hn => rfl); (case hr => first | (go_simp; done) | (go_simp; rfl)); intro w11560 hw; have n0_ : Aside0 (Kd.R (Kd.int .u8) 5 w11560 w.heap.size (fun k_ => some k_ ≠ (.slice Ao2680476 y474.length co2680476 : Value).ownBlock) (.slice Ao20 t455.length co20) t455) := ⟨(by rw [hw]; exact (by (with_reducible repeat (first | apply Kd.R_alloc | apply Kd.R_drewN | apply Kd.R_drew)); exact Kd.R_mono (Kd.R_far9 (g := gb442) (Kd.R_far (p := ⟨gb459, 8, none⟩) (Kd.R_types (Kd.R_types HO_460008.out BK459.out (by decide)) BK442.out (by decide)) (fun _ hk => hk.1.2) (.slice Ao2680476 y474.length co2680476)) (fun _ hk => hk.2) _ _ _ _ _ _ _ _ _) (fun _ hk => hk.1.1.2)))⟩; have n1_ : Aside0 (Kd.R (Kd.int .u8) 5 w11560 w.heap.size (fun k_ => some k_ ≠ (.slice Ao20 t455.length co20 : Value).ownBlock) (.slice Ao2680476 y474.length co2680476) y474) := ⟨(by rw [hw]; exact (by (with_reducible repeat (first | apply Kd.R_alloc | apply Kd.R_drewN | apply Kd.R_drew)); exact Kd.R_mono (Kd.R_far9 (g := gb442) (Kd.R_far (p := ⟨gb459, 8, none⟩) (Kd.R_types (Kd.R_types HO476.out BK459.out (by decide)) BK442.out (by decide)) (fun _ hk => hk.1.2) (.slice Ao2680476 y474.length co2680476)) (fun _ hk => hk.2) _ _ _ _ _ _ _ _ _) (fun _ hk => hk.1.1.2)))⟩; have n2_ : Aside0 (w11560.heap[gb442]? = some (.cells #[.int .i64 t443, .int .i64 t445, .int .i64 t447, .int .i64 t449, .int .i64 t451, .int .i64 x460005_10, .bool x460006_10, .bool x460007_10, .slice Ao2680476 y474.length co2680476] 52 (0, 0))) := ⟨(by rw [hw]; exact (by (with_reducible repeat (first | refine bn_ ?_ _ | refine bw_ ?_ | refine ba_ ?_ _)); with_reducible apply blk_put9; (with_reducible repeat (first | refine bn_ ?_ _ | refine bw_ ?_ | refine ba_ ?_ _)); refine blk_far ?_ NB442_459.out _; (with_reducible repeat (first | refine bn_ ?_ _ | refine bw_ ?_ | refine ba_ ?_ _)); exact BK442.out))⟩; have n3_ : Aside0 (w11560.heap[gb459]? = some (.cells #[.int .i64 t443, .int .i64 t445, .int .i64 t447, .int .i64 t449, .int .i64 t451, .int .i64 x460005_10, .bool x460006_10, .bool x460007_10, .slice Ao2680476 y474.length co2680476] 52 (0, 0))) := ⟨(by rw [hw]; exact (by (with_reducible repeat (first | refine bn_ ?_ _ | refine bw_ ?_ | refine ba_ ?_ _)); refine blk_far ?_ NB459_442.out _; (with_reducible repeat (first | refine bn_ ?_ _ | refine bw_ ?_ | refine ba_ ?_ _)); refine blk_far ?_ NB459_442.out _; (with_reducible repeat (first | refine bn_ ?_ _ | refine bw_ ?_ | refine ba_ ?_ _)); refine blk_far ?_ NB459_442.out _; (with_reducible repeat (first | refine bn_ ?_ _ | refine bw_ ?_ | refine ba_ ?_ _)); refine blk_far ?_ NB459_442.out _; (with_reducible repeat (first | refine bn_ ?_ _ | refine bw_ ?_ | refine ba_ ?_ _)); refine blk_far ?_ NB459_442.out _; (with_reducible repeat (first | refine bn_ ?_ _ | refine bw_ ?_ | refine ba_ ?_ _)); refine blk_far ?_ NB459_442.out _; (with_reducible repeat (first | refine bn_ ?_ _ | refine bw_ ?_ | refine ba_ ?_ _)); refine blk_far ?_ NB459_442.out _; (with_reducible repeat (first | refine bn_ ?_ _ | refine bw_ ?_ | refine ba_ ?_ _)); refine blk_far ?_ NB459_442.out _; (with_reducible repeat (first | refine bn_ ?_ _ | refine bw_ ?_ | refine ba_ ?_ _)); refine blk_far ?_ NB459_442.out _; (with_reducible repeat (first | refine bn_ ?_ _ | refine bw_ ?_ | refine ba_ ?_ _)); refine blk_put (cs := #[.int .i64 t443, .int .i64 t445, .int .i64 t447, .int .i64 t449, .int .i64 t451, .int .i64 x460005_10, .bool x460006_10, .bool x460007_10, .slice Ao20 t455.length co20]) ?_ 8 _ rfl; (with_reducible repeat (first | refine bn_ ?_ _ | refine bw_ ?_ | refine ba_ ?_ _)); exact BK459.out))⟩; have n4_ : Aside0 (IsS93 w0 w11560 g s0_0 t469) := ⟨(by rw [hw]; exact (by repeat (first | (with_reducible first | exact HI0.out | apply IsS93.alloc | apply IsS93.drewN | apply IsS93.drew | apply IsS93.set_1 | refine IsS93.far ?_ NB0_442.out _ | refine IsS93.far ?_ NB0_459.out _) | exact HI0.out)))⟩; have n5_ : Aside0 (KeepBut w w11560 g none) := ⟨(by rw [hw]; exact (by repeat (first | (with_reducible first | exact HK.out | apply KeepBut.set_ | apply keep_drewN | apply keep_drew | apply keep_alloc | refine keep_far ?_ GW442.out _ | refine keep_far ?_ GW459.out _) | exact HK.out)))⟩; have n6_ : Aside0 (Below w0.heap.size w0 w11560) := ⟨(by rw [hw]; exact (by repeat (first | (with_reducible first | exact HB.out | apply na_ | apply nn_ | apply nw_ | refine bs_ ?_ (IsS93.ge HI0.out) | refine bs_ ?_ GE442.out | refine bs_ ?_ GE459.out) | exact HB.out)))⟩; clear hw; clear HO_460008; clear HO476; clear BK442; clear BK459; clear HI0; clear HK; clear HB; have HO_460008 := n0_; have HO476 := n1_; have BK442 := n2_; have BK459 := n3_; have HI0 := n4_; have HK := n5_; have HB := n6_; clear n0_ n1_ n2_ n3_ n4_ n5_ n6_) | (have zz_ := z13_; clear zz_; (with_reducible refine gate_store (t := 52) (p := 4) rfl ?_); refine store_event (t := 52) (p := 4) (v := ?_) (w1 := ?_) ?hg ?ho ?hn ?hr ?_; (case ho => rfl); (case hg => rfl); (case hn => rfl); (case hr => first | (go_simp; done) | (go_simp; rfl)); intro w11560 hw; have n0_ : Aside0 (Kd.R (Kd.int .u8) 5 w11560 w.heap.size (fun _ => True) (.slice Ao20 t455.length co20) t455) := ⟨(by rw [hw]; exact (by (with_reducible repeat (first | apply Kd.R_alloc | apply Kd.R_drewN | apply Kd.R_drew)); exact Kd.R_mono (Kd.R_far9 (g := gb442) (Kd.R_far (p := ⟨gb459, 5, none⟩) (Kd.R_far (p := ⟨gb459, 7, none⟩) (Kd.R_types (Kd.R_types HO_460008.out BK459.out (by decide)) BK442.out (by decide)) (fun _ hk => hk.1.2) (.bool true)) (fun _ hk => hk.1.2) (.int .i64 3)) (fun _ hk => hk.2) _ _ _ _ _ _ _ _ _) (fun _ hk => trivial)))⟩; have n1_ : Aside0 (w11560.heap[gb442]? = some (.cells #[.int .i64 t443, .int .i64 t445, .int .i64 t447, .int .i64 t449, .int .i64 t451, .int .i64 3, .bool x460006_10, .bool true, .slice Ao20 t455.length co20] 52 (0, 0))) := ⟨(by rw [hw]; exact (by (with_reducible repeat (first | refine bn_ ?_ _ | refine bw_ ?_ | refine ba_ ?_ _)); with_reducible apply blk_put9; (with_reducible repeat (first | refine bn_ ?_ _ | refine bw_ ?_ | refine ba_ ?_ _)); refine blk_far ?_ NB442_459.out _; (with_reducible repeat (first | refine bn_ ?_ _ | refine bw_ ?_ | refine ba_ ?_ _)); refine blk_far ?_ NB442_459.out _; (with_reducible repeat (first | refine bn_ ?_ _ | refine bw_ ?_ | refine ba_ ?_ _)); exact BK442.out))⟩; have n2_ : Aside0 (w11560.heap[gb459]? = some (.cells #[.int .i64 t443, .int .i64 t445, .int .i64 t447, .int .i64 t449, .int .i64 t451, .int .i64 3, .bool x460006_10, .bool true, .slice Ao20 t455.length co20] 52 (0, 0))) := ⟨(by rw [hw]; exact (by (with_reducible repeat (first | refine bn_ ?_ _ | refine bw_ ?_ | refine ba_ ?_ _)); refine blk_far ?_ NB459_442.out _; (with_reducible repeat (first | refine bn_ ?_ _ | refine bw_ ?_ | refine ba_ ?_ _)); refine blk_far ?_ NB459_442.out _; (with_reducible repeat (first | refine bn_ ?_ _ | refine bw_ ?_ | refine ba_ ?_ _)); refine blk_far ?_ NB459_442.out _; (with_reducible repeat (first | refine bn_ ?_ _ | refine bw_ ?_ | refine ba_ ?_ _)); refine blk_far ?_ NB459_442.out _; (with_reducible repeat (first | refine bn_ ?_ _ | refine bw_ ?_ | refine ba_ ?_ _)); refine blk_far ?_ NB459_442.out _; (with_reducible repeat (first | refine bn_ ?_ _ | refine bw_ ?_ | refine ba_ ?_ _)); refine blk_far ?_ NB459_442.out _; (with_reducible repeat (first | refine bn_ ?_ _ | refine bw_ ?_ | refine ba_ ?_ _)); refine blk_far ?_ NB459_442.out _; (with_reducible repeat (first | refine bn_ ?_ _ | refine bw_ ?_ | refine ba_ ?_ _)); refine blk_far ?_ NB459_442.out _; (with_reducible repeat (first | refine bn_ ?_ _ | refine bw_ ?_ | refine ba_ ?_ _)); refine blk_far ?_ NB459_442.out _; (with_reducible repeat (first | refine bn_ ?_ _ | refine bw_ ?_ | refine ba_ ?_ _)); refine blk_put (cs := #[.int .i64 t443, .int .i64 t445, .int .i64 t447, .int .i64 t449, .int .i64 t451, .int .i64 x460005_10, .bool x460006_10, .bool true, .slice Ao20 t455.length co20]) ?_ 5 _ rfl; (with_reducible repeat (first | refine bn_ ?_ _ | refine bw_ ?_ | refine ba_ ?_ _)); refine blk_put (cs := #[.int .i64 t443, .int .i64 t445, .int .i64 t447, .int .i64 t449, .int .i64 t451, .int .i64 x460005_10, .bool x460006_10, .bool x460007_10, .slice Ao20 t455.length co20]) ?_ 7 _ rfl; (with_reducible repeat (first | refine bn_ ?_ _ | refine bw_ ?_ | refine ba_ ?_ _)); exact BK459.out))⟩; have n3_ : Aside0 (IsS93 w0 w11560 g s0_0 t469) := ⟨(by rw [hw]; exact (by repeat (first | (with_reducible first | exact HI0.out | apply IsS93.alloc | apply IsS93.drewN | apply IsS93.drew | apply IsS93.set_1 | refine IsS93.far ?_ NB0_442.out _ | refine IsS93.far ?_ NB0_459.out _) | exact HI0.out)))⟩; have n4_ : Aside0 (KeepBut w w11560 g none) := ⟨(by rw [hw]; exact (by repeat (first | (with_reducible first | exact HK.out | apply KeepBut.set_ | apply keep_drewN | apply keep_drew | apply keep_alloc | refine keep_far ?_ GW442.out _ | refine keep_far ?_ GW459.out _) | exact HK.out)))⟩; have n5_ : Aside0 (Below w0.heap.size w0 w11560) := ⟨(by rw [hw]; exact (by repeat (first | (with_reducible first | exact HB.out | apply na_ | apply nn_ | apply nw_ | refine bs_ ?_ (IsS93.ge HI0.out) | refine bs_ ?_ GE442.out | refine bs_ ?_ GE459.out) | exact HB.out)))⟩; clear hw; clear HO_460008; clear BK442; clear BK459; clear HI0; clear HK; clear HB; have HO_460008 := n0_; have BK442 := n1_; have BK459 := n2_; have HI0 := n3_; have HK := n4_; have HB := n5_; clear n0_ n1_ n2_ n3_ n4_ n5_) | (have zz_ := z14_; clear zz_; (with_reducible refine gate_store (t := 52) (p := 4) rfl ?_); refine store_event (t := 52) (p := 4) (v := ?_) (w1 := ?_) ?hg ?ho ?hn ?hr ?_; (case ho => rfl); (case hg => rfl); (case hn => rfl); (case hr => first | (go_simp; done) | (go_simp; rfl)); intro w11560 hw; have n0_ : Aside0 (Kd.R (Kd.int .u8) 5 w11560 w.heap.size (fun _ => True) (.slice Ao20 t455.length co20) t455) := ⟨(by rw [hw]; exact (by (with_reducible repeat (first | apply Kd.R_alloc | apply Kd.R_drewN | apply Kd.R_drew)); exact Kd.R_mono (Kd.R_far9 (g := gb442) (Kd.R_far (p := ⟨gb459, 8, none⟩) (Kd.R_far (p := ⟨gb459, 6, none⟩) (Kd.R_types (Kd.R_types HO_460008.out BK459.out (by decide)) BK442.out (by decide)) (fun _ hk => hk.1.2) (.bool true)) (fun _ hk => hk.1.2) (.slice none 0 0)) (fun _ hk => hk.2) _ _ _ _ _ _ _ _ _) (fun _ hk => trivial)))⟩; have n1_ : Aside0 (w11560.heap[gb442]? = some (.cells #[.int .i64 t443, .int .i64 t445, .int .i64 t447, .int .i64 t449, .int .i64 t451, .int .i64 x460005_10, .bool true, .bool x460007_10, .slice none 0 0] 52 (0, 0))) := ⟨(by rw [hw]; exact (by (with_reducible repeat (first | refine bn_ ?_ _ | refine bw_ ?_ | refine ba_ ?_ _)); with_reducible apply blk_put9; (with_reducible repeat (first | refine bn_ ?_ _ | refine bw_ ?_ | refine ba_ ?_ _)); refine blk_far ?_ NB442_459.out _; (with_reducible repeat (first | refine bn_ ?_ _ | refine bw_ ?_ | refine ba_ ?_ _)); refine blk_far ?_ NB442_459.out _; (with_reducible repeat (first | refine bn_ ?_ _ | refine bw_ ?_ | refine ba_ ?_ _)); exact BK442.out))⟩; have n2_ : Aside0 (w11560.heap[gb459]? = some (.cells #[.int .i64 t443, .int .i64 t445, .int .i64 t447, .int .i64 t449, .int .i64 t451, .int .i64 x460005_10, .bool true, .bool x460007_10, .slice none 0 0] 52 (0, 0))) := ⟨(by rw [hw]; exact (by (with_reducible repeat (first | refine bn_ ?_ _ | refine bw_ ?_ | refine ba_ ?_ _)); refine blk_far ?_ NB459_442.out _; (with_reducible repeat (first | refine bn_ ?_ _ | refine bw_ ?_ | refine ba_ ?_ _)); refine blk_far ?_ NB459_442.out _; (with_reducible repeat (first | refine bn_ ?_ _ | refine bw_ ?_ | refine ba_ ?_ _)); refine blk_far ?_ NB459_442.out _; (with_reducible repeat (first | refine bn_ ?_ _ | refine bw_ ?_ | refine ba_ ?_ _)); refine blk_far ?_ NB459_442.out _; (with_reducible repeat (first | refine bn_ ?_ _ | refine bw_ ?_ | refine ba_ ?_ _)); refine blk_far ?_ NB459_442.out _; (with_reducible repeat (first | refine bn_ ?_ _ | refine bw_ ?_ | refine ba_ ?_ _)); refine blk_far ?_ NB459_442.out _; (with_reducible repeat (first | refine bn_ ?_ _ | refine bw_ ?_ | refine ba_ ?_ _)); refine blk_far ?_ NB459_442.out _; (with_reducible repeat (first | refine bn_ ?_ _ | refine bw_ ?_ | refine ba_ ?_ _)); refine blk_far ?_ NB459_442.out _; (with_reducible repeat (first | refine bn_ ?_ _ | refine bw_ ?_ | refine ba_ ?_ _)); refine blk_far ?_ NB459_442.out _; (with_reducible repeat (first | refine bn_ ?_ _ | refine bw_ ?_ | refine ba_ ?_ _)); refine blk_put (cs := #[.int .i64 t443, .int .i64 t445, .int .i64 t447, .int .i64 t449, .int .i64 t451, .int .i64 x460005_10, .bool true, .bool x460007_10, .slice Ao20 t455.length co20]) ?_ 8 _ rfl; (with_reducible repeat (first | refine bn_ ?_ _ | refine bw_ ?_ | refine ba_ ?_ _)); refine blk_put (cs := #[.int .i64 t443, .int .i64 t445, .int .i64 t447, .int .i64 t449, .int .i64 t451, .int .i64 x460005_10, .bool x460006_10, .bool x460007_10, .slice Ao20 t455.length co20]) ?_ 6 _ rfl; (with_reducible repeat (first | refine bn_ ?_ _ | refine bw_ ?_ | refine ba_ ?_ _)); exact BK459.out))⟩; have n3_ : Aside0 (IsS93 w0 w11560 g s0_0 t469) := ⟨(by rw [hw]; exact (by repeat (first | (with_reducible first | exact HI0.out | apply IsS93.alloc | apply IsS93.drewN | apply IsS93.drew | apply IsS93.set_1 | refine IsS93.far ?_ NB0_442.out _ | refine IsS93.far ?_ NB0_459.out _) | exact HI0.out)))⟩; have n4_ : Aside0 (KeepBut w w11560 g none) := ⟨(by rw [hw]; exact (by repeat (first | (with_reducible first | exact HK.out | apply KeepBut.set_ | apply keep_drewN | apply keep_drew | apply keep_alloc | refine keep_far ?_ GW442.out _ | refine keep_far ?_ GW459.out _) | exact HK.out)))⟩; have n5_ : Aside0 (Below w0.heap.size w0 w11560) := ⟨(by rw [hw]; exact (by repeat (first | (with_reducible first | exact HB.out | apply na_ | apply nn_ | apply nw_ | refine bs_ ?_ (IsS93.ge HI0.out) | refine bs_ ?_ GE442.out | refine bs_ ?_ GE459.out) | exact HB.out)))⟩; clear hw; clear HO_460008; clear BK442; clear BK459; clear HI0; clear HK; clear HB; have HO_460008 := n0_; have BK442 := n1_; have BK459 := n2_; have HI0 := n3_; have HK := n4_; have HB := n5_; clear n0_ n1_ n2_ n3_ n4_ n5_) | ((with_reducible refine gate_callee (f := 58) rfl ?_); have hA_ := A47.out; refine goesL_ (some 45) rfl rfl Try.func58 (by kernel_rfl) rfl #[.pointer (some ⟨g, 0, none⟩), .int .i64 5] rfl (by (try simp only [lm_, lo_, ln_]); try rfl) ?_; (with_reducible refine (spec_l20Rd_pick.calls kj10 g s0_0 t467 5 t468 t469 w0 _ ?side1 ?side2 A47.out).mono ?_); (case side1 => repeat (first | (with_reducible first | exact HI0.out | apply IsS93.alloc | apply IsS93.drewN | apply IsS93.drew | apply IsS93.set_1 | refine IsS93.far ?_ NB0_442.out _ | refine IsS93.far ?_ NB0_459.out _) | exact HI0.out)); (case side2 => repeat (first | (with_reducible first | exact HB.out | apply na_ | apply nn_ | apply nw_ | refine bs_ ?_ (IsS93.ge HI0.out) | refine bs_ ?_ GE442.out | refine bs_ ?_ GE459.out) | exact HB.out)); rintro e w11600 ⟨rfl, hi, hb, hk⟩; refine ⟨_, rfl, ?_⟩; replace HO_460008 := mk_ (Kd.R_mono (Kd.R_keep (IsS93.apart (show IsS93 w0 _ g s0_0 t467 from by repeat (first | (with_reducible first | exact HI0.out | apply IsS93.alloc | apply IsS93.drewN | apply IsS93.drew | apply IsS93.set_1 | refine IsS93.far ?_ NB0_442.out _ | refine IsS93.far ?_ NB0_459.out _) | exact HI0.out)) (Kd.ur_ HO_460008.out) (by decide)) hk (fun _ h => h.2)) (fun _ h => h.1)); replace BK442 := mk_ (KeepBut.blk hk (g' := gb442) (o := .cells #[.int .i64 0, .int .i64 0, .int .i64 0, .int .i64 0, .int .i64 0, .int .i64 0, .bool false, .bool false, .slice none 0 0] 52 (0, 0)) (u_ BK442.out) NB442_0.out (by simp)); replace BK459 := mk_ (KeepBut.blk hk (g' := gb459) (o := .cells #[.int .i64 t443, .int .i64 t445, .int .i64 t447, .int .i64 t449, .int .i64 t451, .int .i64 x460005_10, .bool x460006_10, .bool x460007_10, .slice Ao20 t455.length co20] 52 (0, 0)) (u_ BK459.out) NB459_0.out (by simp)); replace HK := mk_ (KeepBut.trans (by repeat (first | (with_reducible first | exact HK.out | apply KeepBut.set_ | apply keep_drewN | apply keep_drew | apply keep_alloc | refine keep_far ?_ GW442.out _ | refine keep_far ?_ GW459.out _) | exact HK.out)) hk (.inl rfl)); replace HB := mk_ (hb); replace HI0 := mk_ (hi); clear hA_ A47; have hnb2650442459 := NB459_442.out; have hnc2650442459 := NB442_459.out; have hnb26500459 := NB459_0.out; have hnc26500459 := NB0_459.out; obtain ⟨_, _, _, _, _, _, _, _, _, _, _, _, _, _, _, _, _, _⟩ := cells9_ BK459.out; have hnb26500442 := NB442_0.out; have hnc26500442 := NB0_442.out; obtain ⟨_, _, _, _, _, _, _, _, _, _, _, _, _, _, _, _, _, _⟩ := cells9_ BK442.out) | ((with_reducible refine gate_callee (f := 58) rfl ?_); have hA_ := A49.out; refine goesL_ (some 51) rfl rfl Try.func58 (by kernel_rfl) rfl #[.pointer (some ⟨g, 0, none⟩), .int .i64 2] rfl (by (try simp only [lm_, lo_, ln_]); try rfl) ?_; (with_reducible refine (spec_l20Rd_pick.calls kj10 g s0_0 t469 2 t470 t471 w0 _ ?side1 ?side2 A49.out).mono ?_); (case side1 => repeat (first | (with_reducible first | exact HI0.out | apply IsS93.alloc | apply IsS93.drewN | apply IsS93.drew | apply IsS93.set_1 | refine IsS93.far ?_ NB0_442.out _ | refine IsS93.far ?_ NB0_459.out _) | exact HI0.out)); (case side2 => repeat (first | (with_reducible first | exact HB.out | apply na_ | apply nn_ | apply nw_ | refine bs_ ?_ (IsS93.ge HI0.out) | refine bs_ ?_ GE442.out | refine bs_ ?_ GE459.out) | exact HB.out)); rintro e w11640 ⟨rfl, hi, hb, hk⟩; refine ⟨_, rfl, ?_⟩; replace HO_460008 := mk_ (Kd.R_mono (Kd.R_keep (IsS93.apart (show IsS93 w0 _ g s0_0 t469 from by repeat (first | (with_reducible first | exact HI0.out | apply IsS93.alloc | apply IsS93.drewN | apply IsS93.drew | apply IsS93.set_1 | refine IsS93.far ?_ NB0_442.out _ | refine IsS93.far ?_ NB0_459.out _) | exact HI0.out)) (Kd.ur_ HO_460008.out) (by decide)) hk (fun _ h => h.2)) (fun _ h => h.1)); replace BK442 := mk_ (KeepBut.blk hk (g' := gb442) (o := .cells #[.int .i64 0, .int .i64 0, .int .i64 0, .int .i64 0, .int .i64 0, .int .i64 0, .bool false, .bool false, .slice none 0 0] 52 (0, 0)) (u_ BK442.out) NB442_0.out (by simp)); replace BK459 := mk_ (KeepBut.blk hk (g' := gb459) (o := .cells #[.int .i64 t443, .int .i64 t445, .int .i64 t447, .int .i64 t449, .int .i64 t451, .int .i64 x460005_10, .bool x460006_10, .bool x460007_10, .slice Ao20 t455.length co20] 52 (0, 0)) (u_ BK459.out) NB459_0.out (by simp)); replace HK := mk_ (KeepBut.trans (by repeat (first | (with_reducible first | exact HK.out | apply KeepBut.set_ | apply keep_drewN | apply keep_drew | apply keep_alloc | refine keep_far ?_ GW442.out _ | refine keep_far ?_ GW459.out _) | exact HK.out)) hk (.inl rfl)); replace HB := mk_ (hb); replace HI0 := mk_ (hi); have hnb2660442459 := NB459_442.out; have hnc2660442459 := NB442_459.out; have hnb26600459 := NB459_0.out; have hnc26600459 := NB0_459.out; obtain ⟨_, _, _, _, _, _, _, _, _, _, _, _, _, _, _, _, _, _⟩ := cells9_ BK459.out; have hnb26600442 := NB442_0.out; have hnc26600442 := NB0_442.out; obtain ⟨_, _, _, _, _, _, _, _, _, _, _, _, _, _, _, _, _, _⟩ := cells9_ BK442.out; clear hA_ A49) | ((with_reducible refine gate_callee (f := 58) rfl ?_); have hA_ := A60.out; refine goesL_ (some 58) rfl rfl Try.func58 (by kernel_rfl) rfl #[.pointer (some ⟨g, 0, none⟩), .int .i64 2] rfl (by (try simp only [lm_, lo_, ln_]); try rfl) ?_; (with_reducible refine (spec_l20Rd_pick.calls kj10 g s0_0 t469 2 t472 t473 w0 _ ?side1 ?side2 A60.out).mono ?_); (case side1 => repeat (first | (with_reducible first | exact HI0.out | apply IsS93.alloc | apply IsS93.drewN | apply IsS93.drew | apply IsS93.set_1 | refine IsS93.far ?_ NB0_442.out _ | refine IsS93.far ?_ NB0_459.out _) | exact HI0.out)); (case side2 => repeat (first | (with_reducible first | exact HB.out | apply na_ | apply nn_ | apply nw_ | refine bs_ ?_ (IsS93.ge HI0.out) | refine bs_ ?_ GE442.out | refine bs_ ?_ GE459.out) | exact HB.out)); rintro e w11680 ⟨rfl, hi, hb, hk⟩; refine ⟨_, rfl, ?_⟩; replace HO_460008 := mk_ (Kd.R_mono (Kd.R_keep (IsS93.apart (show IsS93 w0 _ g s0_0 t469 from by repeat (first | (with_reducible first | exact HI0.out | apply IsS93.alloc | apply IsS93.drewN | apply IsS93.drew | apply IsS93.set_1 | refine IsS93.far ?_ NB0_442.out _ | refine IsS93.far ?_ NB0_459.out _) | exact HI0.out)) (Kd.ur_ HO_460008.out) (by decide)) hk (fun _ h => h.2)) (fun _ h => h.1)); replace BK442 := mk_ (KeepBut.blk hk (g' := gb442) (o := .cells #[.int .i64 0, .int .i64 0, .int .i64 0, .int .i64 0, .int .i64 0, .int .i64 0, .bool false, .bool false, .slice none 0 0] 52 (0, 0)) (u_ BK442.out) NB442_0.out (by simp)); replace BK459 := mk_ (KeepBut.blk hk (g' := gb459) (o := .cells #[.int .i64 t443, .int .i64 t445, .int .i64 t447, .int .i64 t449, .int .i64 t451, .int .i64 x460005_10, .bool x460006_10, .bool x460007_10, .slice Ao20 t455.length co20] 52 (0, 0)) (u_ BK459.out) NB459_0.out (by simp)); replace HK := mk_ (KeepBut.trans (by repeat (first | (with_reducible first | exact HK.out | apply KeepBut.set_ | apply keep_drewN | apply keep_drew | apply keep_alloc | refine keep_far ?_ GW442.out _ | refine keep_far ?_ GW459.out _) | exact HK.out)) hk (.inl rfl)); replace HB := mk_ (hb); replace HI0 := mk_ (hi); have hnb2670442459 := NB459_442.out; have hnc2670442459 := NB442_459.out; have hnb26700459 := NB459_0.out; have hnc26700459 := NB0_459.out; obtain ⟨_, _, _, _, _, _, _, _, _, _, _, _, _, _, _, _, _, _⟩ := cells9_ BK459.out; have hnb26700442 := NB442_0.out; have hnc26700442 := NB0_442.out; obtain ⟨_, _, _, _, _, _, _, _, _, _, _, _, _, _, _, _, _, _⟩ := cells9_ BK442.out; clear hA_ A60) | ((with_reducible refine gate_dst (N := 64) rfl ?_); refine Kd.R_make (Kd.int .u8) _ 5 rfl (N := 64) rfl 29 _ _ rfl 49 rfl rfl Try.underlying29 (.int .u8 0) 1 info5 rfl (by decide) (by omega) 0 (ok := fun _ => True) (okp := fun _ => True) rfl (fun _ hk => hk) trivial (by omega) (by omega) (Below.refl _ _) (Nat.le_refl _) ?_; intro v11720 w11721 ho11722 hb hg_ hnew_; clear hg_ hnew_; (first | rw [← Ny474.out] at ho11722 | (simp only [Int.reduceToNat] at ho11722; rw [← Ny474.out] at ho11722)); have n0_ := mk_ (Kd.R_elder' (Kd.ur_ HO_460008.out) (Kd.R_base ho11722) hb); have HO476 := mk_ (Kd.R_lower (Kd.R_new' ho11722 (Kd.R_lt (Kd.ur_ HO_460008.out))) (keep_size (w := w) (g := g) (row := none) (by repeat (first | (with_reducible first | exact HK.out | apply KeepBut.set_ | apply keep_drewN | apply keep_drew | apply keep_alloc | refine keep_far ?_ GW442.out _ | refine keep_far ?_ GW459.out _) | exact HK.out)))); replace BK442 := mk_ (blk_below (u_ BK442.out) hb); replace BK459 := mk_ (blk_below (u_ BK459.out) hb); have n4_ := mk_ (IsS93.below (by repeat (first | (with_reducible first | exact HI0.out | apply IsS93.alloc | apply IsS93.drewN | apply IsS93.drew | apply IsS93.set_1 | refine IsS93.far ?_ NB0_442.out _ | refine IsS93.far ?_ NB0_459.out _) | exact HI0.out)) hb); replace HK := mk_ (KeepBut.trans (by repeat (first | (with_reducible first | exact HK.out | apply KeepBut.set_ | apply keep_drewN | apply keep_drew | apply keep_alloc | refine keep_far ?_ GW442.out _ | refine keep_far ?_ GW459.out _) | exact HK.out)) (KeepBut.of_below hb g none) (.inl rfl)); replace HB := mk_ (below_step (by repeat (first | (with_reducible first | exact HB.out | apply na_ | apply nn_ | apply nw_ | refine bs_ ?_ (IsS93.ge HI0.out) | refine bs_ ?_ GE442.out | refine bs_ ?_ GE459.out) | exact HB.out)) hb); replace HO_460008 := n0_; replace HI0 := n4_; clear n0_ n4_; clear hb ho11722; obtain ⟨Ao2680476, co2680476, eo2680476⟩ := Kd.R_slice HO476.out; subst eo2680476; have hnb2680442459 := NB459_442.out; have hnc2680442459 := NB442_459.out; have hnb26800459 := NB459_0.out; have hnc26800459 := NB0_459.out; obtain ⟨_, _, _, _, _, _, _, _, _, _, _, _, _, _, _, _, _, _⟩ := cells9_ BK459.out; have hnb26800442 := NB442_0.out; have hnc26800442 := NB0_442.out; obtain ⟨_, _, _, _, _, _, _, _, _, _, _, _, _, _, _, _, _, _⟩ := cells9_ BK442.out))
   ·refine bodyPost_ret (results_cell_row rfl _ _ gb442 52 #[.int .i64 t443, .int .i64 t445, .int .i64 t447, .int .i64 t449, .int .i64 t451, .int .i64 x460005_10, .bool x460006_10, .bool x460007_10, .slice Ao20 t455.length co20] (0, 0) _ rfl (u_ BK442.out) Try.underlying52 rfl (by kernel_rfl)) rfl ?_
    exact ⟨_, by first | rfl | (simp [errW_none, errW_some] <;> rfl) | (simp [*, errW_none, errW_some] <;> rfl), by (with_reducible repeat (first | apply Kd.R_alloc | apply Kd.R_drewN | apply Kd.R_drew)); exact HO_460008.out, by repeat (first | (with_reducible first | exact HI0.out | apply IsS93.alloc | apply IsS93.drewN | apply IsS93.drew | apply IsS93.set_1 | refine IsS93.far ?_ NB0_442.out _ | refine IsS93.far ?_ NB0_459.out _) | exact HI0.out), by repeat (first | (with_reducible first | exact HB.out | apply na_ | apply nn_ | apply nw_ | refine bs_ ?_ (IsS93.ge HI0.out) | refine bs_ ?_ GE442.out | refine bs_ ?_ GE459.out) | exact HB.out), by repeat (first | (with_reducible first | exact HK.out | apply KeepBut.set_ | apply keep_drewN | apply keep_drew | apply keep_alloc | refine keep_far ?_ GW442.out _ | refine keep_far ?_ GW459.out _) | exact HK.out)⟩
   ·refine bodyPost_ret (results_cell_row rfl _ _ gb442 52 #[.int .i64 t443, .int .i64 (wrap64 (65536 - (wrap64 (t470 * 65540)))), .int .i64 t447, .int .i64 t449, .int .i64 t451, .int .i64 x460005_10, .bool x460006_10, .bool x460007_10, .slice Ao20 t455.length co20] (0, 0) _ rfl (u_ BK442.out) Try.underlying52 rfl (by kernel_rfl)) rfl ?_
    exact ⟨_, by first | rfl | (simp [errW_none, errW_some] <;> rfl) | (simp [*, errW_none, errW_some] <;> rfl), by (with_reducible repeat (first | apply Kd.R_alloc | apply Kd.R_drewN | apply Kd.R_drew)); exact HO_460008.out, by repeat (first | (with_reducible first | exact HI0.out | apply IsS93.alloc | apply IsS93.drewN | apply IsS93.drew | apply IsS93.set_1 | refine IsS93.far ?_ NB0_442.out _ | refine IsS93.far ?_ NB0_459.out _) | exact HI0.out), by repeat (first | (with_reducible first | exact HB.out | apply na_ | apply nn_ | apply nw_ | refine bs_ ?_ (IsS93.ge HI0.out) | refine bs_ ?_ GE442.out | refine bs_ ?_ GE459.out) | exact HB.out), by repeat (first | (with_reducible first | exact HK.out | apply KeepBut.set_ | apply keep_drewN | apply keep_drew | apply keep_alloc | refine keep_far ?_ GW442.out _ | refine keep_far ?_ GW459.out _) | exact HK.out)⟩
   ·refine bodyPost_ret (results_cell_row rfl _ _ gb442 52 #[.int .i64 t443, .int .i64 t445, .int .i64 t447, .int .i64 (wrap64 (256 - (wrap64 (t472 * 300)))), .int .i64 t451, .int .i64 x460005_10, .bool x460006_10, .bool x460007_10, .slice Ao20 t455.length co20] (0, 0) _ rfl (u_ BK442.out) Try.underlying52 rfl (by kernel_rfl)) rfl ?_
    exact ⟨_, by first | rfl | (simp [errW_none, errW_some] <;> rfl) | (simp [*, errW_none, errW_some] <;> rfl), by (with_reducible repeat (first | apply Kd.R_alloc | apply Kd.R_drewN | apply Kd.R_drew)); exact HO_460008.out, by repeat (first | (with_reducible first | exact HI0.out | apply IsS93.alloc | apply IsS93.drewN | apply IsS93.drew | apply IsS93.set_1 | refine IsS93.far ?_ NB0_442.out _ | refine IsS93.far ?_ NB0_459.out _) | exact HI0.out), by repeat (first | (with_reducible first | exact HB.out | apply na_ | apply nn_ | apply nw_ | refine bs_ ?_ (IsS93.ge HI0.out) | refine bs_ ?_ GE442.out | refine bs_ ?_ GE459.out) | exact HB.out), by repeat (first | (with_reducible first | exact HK.out | apply KeepBut.set_ | apply keep_drewN | apply keep_drew | apply keep_alloc | refine keep_far ?_ GW442.out _ | refine keep_far ?_ GW459.out _) | exact HK.out)⟩
   ·refine bodyPost_ret (results_cell_row rfl _ _ gb442 52 #[.int .i64 t443, .int .i64 t445, .int .i64 t447, .int .i64 t449, .int .i64 t451, .int .i64 x460005_10, .bool x460006_10, .bool x460007_10, .slice Ao2680476 y474.length co2680476] (0, 0) _ rfl (u_ BK442.out) Try.underlying52 rfl (by kernel_rfl)) rfl ?_
    exact ⟨_, by first | rfl | (simp [errW_none, errW_some] <;> rfl) | (simp [*, errW_none, errW_some] <;> rfl), by (with_reducible repeat (first | apply Kd.R_alloc | apply Kd.R_drewN | apply Kd.R_drew)); exact Kd.R_mono HO476.out (fun _ hk => trivial), by repeat (first | (with_reducible first | exact HI0.out | apply IsS93.alloc | apply IsS93.drewN | apply IsS93.drew | apply IsS93.set_1 | refine IsS93.far ?_ NB0_442.out _ | refine IsS93.far ?_ NB0_459.out _) | exact HI0.out), by repeat (first | (with_reducible first | exact HB.out | apply na_ | apply nn_ | apply nw_ | refine bs_ ?_ (IsS93.ge HI0.out) | refine bs_ ?_ GE442.out | refine bs_ ?_ GE459.out) | exact HB.out), by repeat (first | (with_reducible first | exact HK.out | apply KeepBut.set_ | apply keep_drewN | apply keep_drew | apply keep_alloc | refine keep_far ?_ GW442.out _ | refine keep_far ?_ GW459.out _) | exact HK.out)⟩
   ·refine bodyPost_ret (results_cell_row rfl _ _ gb442 52 #[.int .i64 t443, .int .i64 t445, .int .i64 t447, .int .i64 t449, .int .i64 t451, .int .i64 3, .bool x460006_10, .bool true, .slice Ao20 t455.length co20] (0, 0) _ rfl (u_ BK442.out) Try.underlying52 rfl (by kernel_rfl)) rfl ?_
    exact ⟨_, by first | rfl | (simp [errW_none, errW_some] <;> rfl) | (simp [*, errW_none, errW_some] <;> rfl), by (with_reducible repeat (first | apply Kd.R_alloc | apply Kd.R_drewN | apply Kd.R_drew)); exact HO_460008.out, by repeat (first | (with_reducible first | exact HI0.out | apply IsS93.alloc | apply IsS93.drewN | apply IsS93.drew | apply IsS93.set_1 | refine IsS93.far ?_ NB0_442.out _ | refine IsS93.far ?_ NB0_459.out _) | exact HI0.out), by repeat (first | (with_reducible first | exact HB.out | apply na_ | apply nn_ | apply nw_ | refine bs_ ?_ (IsS93.ge HI0.out) | refine bs_ ?_ GE442.out | refine bs_ ?_ GE459.out) | exact HB.out), by repeat (first | (with_reducible first | exact HK.out | apply KeepBut.set_ | apply keep_drewN | apply keep_drew | apply keep_alloc | refine keep_far ?_ GW442.out _ | refine keep_far ?_ GW459.out _) | exact HK.out)⟩
   ·refine bodyPost_ret (results_cell_row rfl _ _ gb442 52 #[.int .i64 t443, .int .i64 t445, .int .i64 t447, .int .i64 t449, .int .i64 t451, .int .i64 x460005_10, .bool true, .bool x460007_10, .slice none 0 0] (0, 0) _ rfl (u_ BK442.out) Try.underlying52 rfl (by kernel_rfl)) rfl ?_
    exact ⟨_, by first | rfl | (simp [errW_none, errW_some] <;> rfl) | (simp [*, errW_none, errW_some] <;> rfl), by first | exact Kd.R_nil _ _ _ _ _ | exact Kd.N_nil _ _ _ _ _ | exact Kd.V_nil _ _ _ _ _ | exact Kd.Q_nil _ _ _ _ _ | exact Kd.S_nil _ _ _ _ _, by repeat (first | (with_reducible first | exact HI0.out | apply IsS93.alloc | apply IsS93.drewN | apply IsS93.drew | apply IsS93.set_1 | refine IsS93.far ?_ NB0_442.out _ | refine IsS93.far ?_ NB0_459.out _) | exact HI0.out), by repeat (first | (with_reducible first | exact HB.out | apply na_ | apply nn_ | apply nw_ | refine bs_ ?_ (IsS93.ge HI0.out) | refine bs_ ?_ GE442.out | refine bs_ ?_ GE459.out) | exact HB.out), by repeat (first | (with_reducible first | exact HK.out | apply KeepBut.set_ | apply keep_drewN | apply keep_drew | apply keep_alloc | refine keep_far ?_ GW442.out _ | refine keep_far ?_ GW459.out _) | exact HK.out)⟩



end Go.Proofs.Ytkkibccnpkbbjaa.MFnPortsOk
