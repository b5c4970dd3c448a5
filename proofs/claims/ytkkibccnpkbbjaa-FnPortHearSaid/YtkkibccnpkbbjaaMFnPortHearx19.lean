/- Functions that the law FnPortHear reaches, typed by hand (part 0): what the program's and the reference's ports' functions do, and the walk of the law; no conditions but those that each theorem states. -/
import Derived.Test.YtkkibccnpkbbjaaMFnPortsOkx12
import Derived.StillTailTactics
import Derived.IntWalk
import Derived.Deep.RegionHeld3
import Derived.Shelf.Spec.SlicesInsertGrow
import Derived.Deep.QuietTactic
import Derived.BigQuiet
import Derived.Deep.RegionLaw
namespace Go.Proofs.Ytkkibccnpkbbjaa.MFnPortsOk
open Go.RowKit Go.Proofs.YtkkibccnpkbbjaaV.PrintWords Go.Proofs.YtkkibccnpkbbjaaV.PrintLast Go.Proofs.YtkkibccnpkbbjaaV.PrintMore
attribute [local go_sem] max2_int min2_int max_two min_two max_three min_three max_four min_four
set_option linter.unusedVariables false
set_option linter.unusedSimpArgs false
/-! ### slices_Clip_byte_byte: function 93 -/
set_option maxHeartbeats 400000 in
set_option maxRecDepth 100000 in
theorem slices_Clip_byte_byte.calls (A : Option Addr) (n c : Nat) (w : World) (h : n ≤ c) (hn : n ≤ 9223372036854775807) :
    Calls Try.prog 93 #[.slice A n c] w fun e w' => e = .returned (.slice A n n) ∧ Drawn0 w w' := by
  obtain ⟨i0, hi0, _, hsz, _⟩ := info_parts info5
  have hcut : ∀ w : World, (Instr.slice 29 (.slice A n c) none (some (.int .i64 n)) (some (.int .i64 n))).run Try.prog w = .ok (.slice A n n) w := by
    intro w
    go_simp
  go_enter Try.func93, Try.ntmps93
  go_wp2
  go_ret
  exact ⟨rfl, Drawn0.refl _⟩

/-! ### impl_clone_byte: function 71 -/
def impl_clone_byte.f (l0 : List Int) : Option (List Int) := if l0.length < 140737488355328 then some l0 else none
set_option maxHeartbeats 400000 in
set_option maxRecDepth 100000 in
theorem impl_clone_byte.calls (A0 : Option Addr) (c0 : Nat) (l0 : List Int) (r : List Int) (w : World) (hr0 : Kd.C (Kd.int .u8) w A0 l0.length l0) (hc0 : l0.length ≤ c0) (h : impl_clone_byte.f l0 = some r) :
    Calls Try.prog 71 #[.slice A0 l0.length c0] w fun e w' => ∃ v0_ : Value, e = .returned (v0_) ∧ Kd.R (Kd.int .u8) 5 w' w.heap.size (fun _ => True) v0_ r ∧ Below w.heap.size w w' := by
 have hlim : l0.length < 140737488355328 := by
   unfold impl_clone_byte.f at h
   by_cases hl : l0.length < 140737488355328
   · exact hl
   · rw [if_neg hl] at h; cases h
 obtain rfl : l0 = r := by
   unfold impl_clone_byte.f at h
   rw [if_pos hlim] at h
   exact Option.some.inj h
 clear h
 have HR := Aside0.mk hr0
 have HL := Aside0.mk hlim
 have HI := Aside0.mk info5
 clear hr0 hc0 hlim
 by_cases hz : l0.length = 0
 ·have hz1 : ((l0.length : Int) == 0) = true := by simpa using hz
  have HZ := Aside0.mk hz
  clear hz
  go_enter Try.func71, Try.ntmps71
  go_wp2_with fail
  go_ret
  refine ⟨_, rfl, ?_, Below.refl _ _⟩
  rw [List.eq_nil_of_length_eq_zero HZ.out]
  exact Kd.R_nil _ _ _ _ _
 ·have hz1 : ((l0.length : Int) == 0) = false := by simpa using hz
  clear hz
  go_enter Try.func71, Try.ntmps71
  go_wp2_with (first | (at_builtin; refine Kd.R_append_rows (Kd.int .u8) (w0 := w) w.heap.size rfl (.const (.slice none 0 0)) (.tmp 6) 29 5 (.int .u8 0) 1 rfl Try.underlying29 HI.out rfl (by decide) (by omega) (.slice none 0 0) ([] : List Int) l0 _ _ _ (fun _ => True) (fun _ => False) rfl rfl ?aO ?aR (fun _ _ h => h) (fun _ h => h.elim) ?aF ?aB ?aS ?aL ?_; (case aO => exact Kd.R_nil _ _ _ _ _); (case aR => exact HR.out); (case aF => exact fun _ _ => trivial); (case aB => exact Below.refl _ _); (case aS => exact Nat.le_refl _); (case aL => have := HL.out; simp; omega); intro v1 w1 ho hb hg hat; rw [List.nil_append] at ho; obtain ⟨A1, c1, hv1, hl1, hc1⟩ := Kd.R_reads ho; subst hv1; have HO := Aside0.mk ho; have HB := Aside0.mk hb; have hn1 := hc1.2.1; clear ho hb hg hat hc1) | (go_at_call 93; (with_reducible refine (slices_Clip_byte_byte.calls _ _ _ _ hl1 hn1).mono ?_); rintro e w' ⟨rfl, ⟨nd, rfl⟩⟩))
  go_ret
  exact ⟨_, rfl, Kd.R_clip (by exact HO.out) rfl, by (first | exact HB.out | exact pw_below_drewN HB.out _)⟩

/-! ### cmp_isNaN_int: function 99 -/
def cmp_isNaN_int.f (a0 : Int) : Option (Bool) := some (a0 != a0)
set_option maxHeartbeats 8000000 in
set_option maxRecDepth 100000 in
theorem cmp_isNaN_int.calls (a0 : Int) (r : Bool) (w : World) (h : cmp_isNaN_int.f a0 = some r) :
  Calls Try.prog 99 #[.int .i64 a0] w fun e w' => e = .returned (.bool r) ∧ Drawn0 w w' := by
 have H : (some (a0 != a0)) = some r := h
 clear h
 obtain rfl := Option.some.inj H
 go_enter Try.func99, Try.ntmps99
 go_wp2
 go_ret
 exact ⟨by first | rfl | (simp; done) | (simp [*]; done), by repeat (first | exact Drawn0.refl _ | apply Drawn0.step)⟩

/-! ### cmp_Compare_int: function 86 -/
def cmp_Compare_int.f (a0 : Int) (a1 : Int) : Option (Int) := (cmp_isNaN_int.f a0).bind fun t195 => ((cmp_isNaN_int.f a1).bind fun t196 => (if t195 = true then (if t196 = true then (some 0) else (some (-1))) else (if t196 = true then (some 1) else (if a0 < a1 then (some (-1)) else (if a0 > a1 then (some 1) else (some 0))))))
set_option maxHeartbeats 8000000 in
set_option maxRecDepth 100000 in
theorem cmp_Compare_int.calls (a0 : Int) (a1 : Int) (r : Int) (w : World) (h : cmp_Compare_int.f a0 a1 = some r) :
  Calls Try.prog 86 #[.int .i64 a0, .int .i64 a1] w fun e w' => e = .returned (.int .i64 r) ∧ Drawn0 w w' := by
 have H := h
 unfold cmp_Compare_int.f at H
 clear h
 replace H := Option.bind_eq_some_iff.mp H
 obtain ⟨t195, A30, H⟩ := H
 (try dsimp only at H)
 have A3 := mk_ A30
 clear A30
 replace H := Option.bind_eq_some_iff.mp H
 obtain ⟨t196, A40, H⟩ := H
 (try dsimp only at H)
 have A4 := mk_ A40
 clear A40
 by_cases c5 : t195 = true
 focus
  subst c5
  have H1 : (if t196 = true then (some 0) else (some (-1))) = some r := by rw [if_pos rfl] at H; exact H
  clear H
  have H := H1
  clear H1
  by_cases c6 : t196 = true
  focus
   subst c6
   have H1 : (some 0) = some r := by rw [if_pos rfl] at H; exact H
   clear H
   have H := H1
   clear H1
   obtain rfl := Option.some.inj H
  rotate_left
  focus
   replace c6 := Bool.eq_false_iff.mpr c6
   subst c6
   have H1 : (some (-1)) = some r := by rw [if_neg (show ¬ (false = true) by decide)] at H; exact H
   clear H
   have H := H1
   clear H1
   obtain rfl := Option.some.inj H
  rotate_left
 rotate_left 2
 focus
  replace c5 := Bool.eq_false_iff.mpr c5
  subst c5
  rw [if_neg (show ¬ (false = true) by decide)] at H
  by_cases c7 : t196 = true
  focus
   subst c7
   have H1 : (some 1) = some r := by rw [if_pos rfl] at H; exact H
   clear H
   have H := H1
   clear H1
   obtain rfl := Option.some.inj H
  rotate_left
  focus
   replace c7 := Bool.eq_false_iff.mpr c7
   subst c7
   rw [if_neg (show ¬ (false = true) by decide)] at H
   by_cases c8 : a0 < a1
   focus
    rw [if_pos c8] at H
    have c8b0 : decide (a0 < a1) = true := decide_eq_true c8
    clear c8
    obtain rfl := Option.some.inj H
   rotate_left
   focus
    rw [if_neg c8] at H
    have c8b0 : decide (a0 < a1) = false := decide_eq_false c8
    clear c8
    by_cases c9 : a0 > a1
    focus
     rw [if_pos c9] at H
     have c9b0 : decide (a1 < a0) = true := decide_eq_true c9
     clear c9
     obtain rfl := Option.some.inj H
    rotate_left
    focus
     rw [if_neg c9] at H
     have c9b0 : decide (a1 < a0) = false := decide_eq_false c9
     clear c9
     obtain rfl := Option.some.inj H
    rotate_left
   rotate_left 2
  rotate_left 3
 rotate_left 4
 all_goals
  go_enter Try.func86, Try.ntmps86
  go_wp2_with (first | ((with_reducible refine gate_callee (f := 99) rfl ?_); have hA_ := A3.out; refine goesL_ (some 8) rfl rfl Try.func99 (by kernel_rfl) rfl #[.int .i64 a0] rfl (by (try simp only [lm_, lo_, ln_]); try rfl) ?_; (with_reducible refine (cmp_isNaN_int.calls a0 true _ A3.out).mono ?_); rintro e w' ⟨rfl, ⟨nd, rfl⟩⟩; refine ⟨_, rfl, ?_⟩; clear hA_ A3) | ((with_reducible refine gate_callee (f := 99) rfl ?_); have hA_ := A3.out; refine goesL_ (some 8) rfl rfl Try.func99 (by kernel_rfl) rfl #[.int .i64 a0] rfl (by (try simp only [lm_, lo_, ln_]); try rfl) ?_; (with_reducible refine (cmp_isNaN_int.calls a0 false _ A3.out).mono ?_); rintro e w' ⟨rfl, ⟨nd, rfl⟩⟩; refine ⟨_, rfl, ?_⟩; clear hA_ A3) | ((with_reducible refine gate_callee (f := 99) rfl ?_); have hA_ := A4.out; refine goesL_ (some 10) rfl rfl Try.func99 (by kernel_rfl) rfl #[.int .i64 a1] rfl (by (try simp only [lm_, lo_, ln_]); try rfl) ?_; (with_reducible refine (cmp_isNaN_int.calls a1 true _ A4.out).mono ?_); rintro e w' ⟨rfl, ⟨nd, rfl⟩⟩; refine ⟨_, rfl, ?_⟩; clear hA_ A4) | ((with_reducible refine gate_callee (f := 99) rfl ?_); have hA_ := A4.out; refine goesL_ (some 10) rfl rfl Try.func99 (by kernel_rfl) rfl #[.int .i64 a1] rfl (by (try simp only [lm_, lo_, ln_]); try rfl) ?_; (with_reducible refine (cmp_isNaN_int.calls a1 false _ A4.out).mono ?_); rintro e w' ⟨rfl, ⟨nd, rfl⟩⟩; refine ⟨_, rfl, ?_⟩; clear hA_ A4))
  go_ret
  exact ⟨by first | rfl | (simp; done) | (simp [*]; done), by repeat (first | exact Drawn0.refl _ | apply Drawn0.step)⟩

/-! ### impl_portAt_1: function 85 -/
def impl_portAt_1.f (a0_0 : Int) (l0_1 : List (S40)) (a1 : Int) : Option (Int) := (cmp_Compare_int.f a0_0 a1).bind fun t198 => (some t198)
set_option maxHeartbeats 8000000 in
set_option maxRecDepth 100000 in
theorem impl_portAt_1.calls (a0_0 : Int) (A0_1 : Option Addr) (c0_1 : Nat) (l0_1 : List (S40)) (a1 : Int) (r : Int) (w : World) (hr0_1 : Kd.C k40 w A0_1 l0_1.length l0_1) (hc0_1 : l0_1.length ≤ c0_1) (h : impl_portAt_1.f a0_0 l0_1 a1 = some r) :
  Calls Try.prog 85 #[.agg #[.int .i64 a0_0, .slice A0_1 l0_1.length c0_1], .int .i64 a1] w fun e w' => e = .returned (.int .i64 r) ∧ Below w.heap.size w w' := by
 have hu47 := Try.underlying47
 have HR0_1 := mk_ hr0_1
 have HC0_1 := mk_ hc0_1
 clear hr0_1 hc0_1
 have HB := mk_ (Below.refl w.heap.size w)
 have H : ((cmp_Compare_int.f a0_0 a1).bind fun t198 => (some t198)) = some r := h
 clear h
 replace H := Option.bind_eq_some_iff.mp H
 obtain ⟨t198, A30, H⟩ := H
 replace H : (some t198) = some r := H
 have A3 := mk_ A30
 clear A30
 obtain rfl := Option.some.inj H
 go_enter Try.func85, Try.ntmps85
 go_wp2_with (first | ((with_reducible refine gate_dst (N := 2) rfl ?_); refine box_event ?hg (N := 2) ?hd (cs := #[.int .i64 a0_0, .slice A0_1 l0_1.length c0_1]) (t := 47) ?hr ?_; (case hd => rfl); (case hg => rfl); (case hr => first | (go_simp; done) | (go_simp; rfl)); intro gb197 hg w4 hbox hb; have n0_ := mk_ (below_step (ub_ HB.out) hb); have BK197 := mk_ (hbox); have GW197 := mk_ ((by rw [hg]; exact (below_size (ub_ HB.out)) : w.heap.size ≤ gb197)); have GE197 := ge_ ((by rw [hg]; exact (below_size (ub_ HB.out)) : w.heap.size ≤ gb197)); replace HB := n0_; clear n0_; clear hb hbox hg; obtain ⟨_, _, _, _⟩ := cells2_ BK197.out) | ((with_reducible refine gate_callee (f := 86) rfl ?_); refine goesL_ (some 8) rfl rfl Try.func86 (by kernel_rfl) rfl #[.int .i64 a0_0, .int .i64 a1] rfl (by (try simp only [lm_, lo_, ln_]); try rfl) ?_; (with_reducible refine (cmp_Compare_int.calls a0_0 a1 t198 _ A3.out).mono ?_); rintro e w' ⟨rfl, ⟨nd, rfl⟩⟩; refine ⟨_, rfl, ?_⟩))
 go_ret
 exact ⟨by first | rfl | (simp [errW_none, errW_some] <;> rfl) | (simp [*, errW_none, errW_some] <;> rfl), us_ HB.out⟩









/-! ### laws_sameBytes: function 62 -/
def laws_sameBytes.f (l0 : List Int) (l1 : List Int) : Option (Bool) := some ((strOfNums l0).toList == (strOfNums l1).toList)
set_option maxHeartbeats 8000000 in
set_option maxRecDepth 100000 in
theorem laws_sameBytes.calls (A0 : Option Addr) (c0 : Nat) (l0 : List Int) (A1 : Option Addr) (c1 : Nat) (l1 : List Int) (r : Bool) (w : World) (hr0 : Kd.C (Kd.int .u8) w A0 l0.length l0) (hc0 : l0.length ≤ c0) (hr1 : Kd.C (Kd.int .u8) w A1 l1.length l1) (hc1 : l1.length ≤ c1) (h : laws_sameBytes.f l0 l1 = some r) :
  Calls Try.prog 62 #[.slice A0 l0.length c0, .slice A1 l1.length c1] w fun e w' => e = .returned (.bool r) ∧ Drawn0 w w' := by
 have HR0 := mk_ hr0
 have HC0 := mk_ hc0
 clear hr0 hc0
 have HR1 := mk_ hr1
 have HC1 := mk_ hc1
 clear hr1 hc1
 have H : (some ((strOfNums l0).toList == (strOfNums l1).toList)) = some r := h
 clear h
 obtain rfl := Option.some.inj H
 have hcv3 := Kd.C_string (P := Try.prog) (A := A0) (c := c0) Try.underlying29 Try.underlying5 Try.underlying9 HR0.out
 have hcv4 := Kd.C_string (P := Try.prog) (A := A1) (c := c1) Try.underlying29 Try.underlying5 Try.underlying9 HR1.out
 go_enter Try.func62, Try.ntmps62
 go_wp2
 go_ret
 exact ⟨by first | rfl | (simp; done) | (simp [*]; done), by repeat (first | exact Drawn0.refl _ | apply Drawn0.step)⟩

/-! ### laws_sameMail: function 30 -/
def laws_sameMail.f (a0_0 : Int) (a0_1 : Int) (a0_2 : Int) (l0_3 : List Int) (a1_0 : Int) (a1_1 : Int) (a1_2 : Int) (l1_3 : List Int) : Option (Bool) := if a0_0 = a1_0 then (if a0_1 = a1_1 then (if a0_2 = a1_2 then ((laws_sameBytes.f l0_3 l1_3).bind fun t382 => (some t382)) else (some false)) else (some false)) else (some false)
set_option maxHeartbeats 8000000 in
set_option maxRecDepth 100000 in
theorem laws_sameMail.calls (a0_0 : Int) (a0_1 : Int) (a0_2 : Int) (A0_3 : Option Addr) (c0_3 : Nat) (l0_3 : List Int) (a1_0 : Int) (a1_1 : Int) (a1_2 : Int) (A1_3 : Option Addr) (c1_3 : Nat) (l1_3 : List Int) (r : Bool) (w : World) (hr0_3 : Kd.C (Kd.int .u8) w A0_3 l0_3.length l0_3) (hc0_3 : l0_3.length ≤ c0_3) (hr1_3 : Kd.C (Kd.int .u8) w A1_3 l1_3.length l1_3) (hc1_3 : l1_3.length ≤ c1_3) (h : laws_sameMail.f a0_0 a0_1 a0_2 l0_3 a1_0 a1_1 a1_2 l1_3 = some r) :
  Calls Try.prog 30 #[.agg #[.int .i64 a0_0, .int .i64 a0_1, .int .i64 a0_2, .slice A0_3 l0_3.length c0_3], .agg #[.int .i64 a1_0, .int .i64 a1_1, .int .i64 a1_2, .slice A1_3 l1_3.length c1_3]] w fun e w' => e = .returned (.bool r) ∧ Below w.heap.size w w' := by
 have hu40 := Try.underlying40
 have HR0_3 := mk_ hr0_3
 have HC0_3 := mk_ hc0_3
 clear hr0_3 hc0_3
 have HR1_3 := mk_ hr1_3
 have HC1_3 := mk_ hc1_3
 clear hr1_3 hc1_3
 have HB := mk_ (Below.refl w.heap.size w)
 have H := h
 unfold laws_sameMail.f at H
 clear h
 by_cases c3 : a0_0 = a1_0
 rotate_left
 focus
  rw [if_neg c3] at H
  have c3b0 : (a0_0 == a1_0) = false := beq_eq_false_iff_ne.mpr c3
  have c3b1 : (a0_0 != a1_0) = true := bne_iff_ne.mpr c3
  obtain rfl := Option.some.inj H
 rotate_left
 focus
  rw [if_pos c3] at H
  have c3b0 : (a0_0 == a1_0) = true := beq_iff_eq.mpr c3
  have c3b1 : (a0_0 != a1_0) = false := bne_eq_false_iff_eq.mpr c3
  clear c3
  by_cases c4 : a0_1 = a1_1
  rotate_left
  focus
   rw [if_neg c4] at H
   have c4b0 : (a0_1 == a1_1) = false := beq_eq_false_iff_ne.mpr c4
   have c4b1 : (a0_1 != a1_1) = true := bne_iff_ne.mpr c4
   obtain rfl := Option.some.inj H
  rotate_left
  focus
   rw [if_pos c4] at H
   have c4b0 : (a0_1 == a1_1) = true := beq_iff_eq.mpr c4
   have c4b1 : (a0_1 != a1_1) = false := bne_eq_false_iff_eq.mpr c4
   clear c4
   by_cases c5 : a0_2 = a1_2
   rotate_left
   focus
    rw [if_neg c5] at H
    have c5b0 : (a0_2 == a1_2) = false := beq_eq_false_iff_ne.mpr c5
    have c5b1 : (a0_2 != a1_2) = true := bne_iff_ne.mpr c5
    obtain rfl := Option.some.inj H
   rotate_left
   focus
    rw [if_pos c5] at H
    have c5b0 : (a0_2 == a1_2) = true := beq_iff_eq.mpr c5
    have c5b1 : (a0_2 != a1_2) = false := bne_eq_false_iff_eq.mpr c5
    clear c5
    replace H := Option.bind_eq_some_iff.mp H
    obtain ⟨t382, A60, H⟩ := H
    replace H : (some t382) = some r := H
    have A6 := mk_ A60
    clear A60
    obtain rfl := Option.some.inj H
   rotate_left
  rotate_left 2
 rotate_left 3
 all_goals
  go_enter Try.func30, Try.ntmps30
  go_wp2_with (first | ((with_reducible refine gate_dst (N := 2) rfl ?_); refine box_event ?hg (N := 2) ?hd (cs := #[.int .i64 a0_0, .int .i64 a0_1, .int .i64 a0_2, .slice A0_3 l0_3.length c0_3]) (t := 40) ?hr ?_; (case hd => rfl); (case hg => rfl); (case hr => first | (go_simp; done) | (go_simp; rfl)); intro gb30320 hg w30321 hbox hb; have n0_ := mk_ (below_step (ub_ HB.out) hb); have BK380 := mk_ (hbox); have GW380 := mk_ ((by rw [hg]; exact (below_size (ub_ HB.out)) : w.heap.size ≤ gb30320)); have GE380 := ge_ ((by rw [hg]; exact (below_size (ub_ HB.out)) : w.heap.size ≤ gb30320)); replace HB := n0_; clear n0_; clear hb hbox hg) | ((with_reducible refine gate_dst (N := 3) rfl ?_); refine box_event ?hg (N := 3) ?hd (cs := #[.int .i64 a1_0, .int .i64 a1_1, .int .i64 a1_2, .slice A1_3 l1_3.length c1_3]) (t := 40) ?hr ?_; (case hd => rfl); (case hg => rfl); (case hr => first | (go_simp; done) | (go_simp; rfl)); intro gb30360 hg w30361 hbox hb; have n0_ := mk_ (blk_below (u_ BK380.out) hb); have n1_ := mk_ (below_step (us_ HB.out) hb); have BK381 := mk_ (hbox); have GW381 := mk_ ((by rw [hg]; exact (below_size (us_ HB.out)) : w.heap.size ≤ gb30360)); have GE381 := ge_ ((by rw [hg]; exact (below_size (us_ HB.out)) : w.heap.size ≤ gb30360)); have NB380_381 := nq_ ((by rw [hg]; exact Nat.ne_of_lt (blk_lt (u_ BK380.out)) : gb30320 ≠ gb30360)); have NB381_380 := nq_ ((by rw [hg]; exact Nat.ne_of_gt (blk_lt (u_ BK380.out)) : gb30360 ≠ gb30320)); replace BK380 := n0_; replace HB := n1_; clear n0_ n1_; clear hb hbox hg; have hnb7340380381 := NB380_381.out; have hnc7340380381 := NB381_380.out; obtain ⟨hcz7340380_0, hcz7340380_1, hcz7340380_2, hcz7340380_3, hfz7340380_0, hfz7340380_1, hfz7340380_2, hfz7340380_3⟩ := cells4_ BK380.out; obtain ⟨_, _, _, _, _, _, _, _⟩ := cells4_ BK381.out) | (go_at_call 62; (with_reducible refine (laws_sameBytes.calls _ _ l0_3 _ _ l1_3 t382 _ ?side1 ?side2 ?side3 ?side4 A6.out).mono ?_); (case side1 => repeat (first | exact (Kd.C_below HR0_3.out HB.out) | (with_reducible refine Kd.C_alloc ?_ _) | (with_reducible refine Kd.C_drewN ?_ _) | (with_reducible refine Kd.C_drew ?_))); (case side2 => exact HC0_3.out); (case side3 => repeat (first | exact (Kd.C_below HR1_3.out HB.out) | (with_reducible refine Kd.C_alloc ?_ _) | (with_reducible refine Kd.C_drewN ?_ _) | (with_reducible refine Kd.C_drew ?_))); (case side4 => exact HC1_3.out); rintro e w' ⟨rfl, ⟨nd, rfl⟩⟩))
  go_ret
  exact ⟨by first | rfl | (simp [errW_none, errW_some] <;> rfl) | (simp [*, errW_none, errW_some] <;> rfl), us_ HB.out⟩

/-! ### laws.samePorts at ports that are the same -/
theorem sameM_h (x : S40) : laws_sameMail.f x.f0 x.f1 x.f2 x.f3 x.f0 x.f1 x.f2 x.f3 = some true := by
  simp [laws_sameMail.f, laws_sameBytes.f]
theorem same40_h (m0 m1 m2 : Int) (m3 : List Int) (A0 : Option Addr) (n0 c0 : Nat) (A1 : Option Addr) (n1 c1 : Nat) (w : World) (h0 : n0 = m3.length) (h1 : n1 = m3.length) (hr0 : Kd.C (Kd.int .u8) w A0 m3.length m3) (hc0 : m3.length ≤ c0) (hr1 : Kd.C (Kd.int .u8) w A1 m3.length m3) (hc1 : m3.length ≤ c1) :
    Calls Try.prog 30 #[.agg #[.int .i64 m0, .int .i64 m1, .int .i64 m2, .slice A0 n0 c0], .agg #[.int .i64 m0, .int .i64 m1, .int .i64 m2, .slice A1 n1 c1]] w fun e w' => e = .returned (.bool true) ∧ Below w.heap.size w w' := by
  subst h0
  subst h1
  exact laws_sameMail.calls m0 m1 m2 A0 c0 m3 m0 m1 m2 A1 c1 m3 true w hr0 hc0 hr1 hc1 (sameM_h ⟨m0, m1, m2, m3⟩)
theorem up_mh {n j : Nat} (h : j < n) (hw : wrap64 ((j : Int) + 1) = ((j + 1 : Nat) : Int)) : n - (intOf (.int .i64 (wrap64 ((j : Int) + 1)))).toNat < n - (intOf (.int .i64 (j : Int))).toNat := by
  rw [hw]
  simp only [intOf]
  omega
/-- Few ports with few messages each. -/
def fewRows (l : List S47) : Prop := l.length ≤ 1000 ∧ ∀ p ∈ l, p.f1.length ≤ 1000
set_option maxHeartbeats 4000000 in
set_option maxRecDepth 100000 in
theorem samePorts_self (A0 : Option Addr) (n0 c0 : Nat) (l : List S47) (A1 : Option Addr) (n1 c1 : Nat) (w : World) (h0 : n0 = l.length) (h1 : n1 = l.length) (hr0 : Kd.C k47 w A0 l.length l) (hc0 : l.length ≤ c0) (hr1 : Kd.C k47 w A1 l.length l) (hc1 : l.length ≤ c1) (hs : fewRows l) :
    Calls Try.prog 23 #[.slice A0 n0 c0, .slice A1 n1 c1] w fun e w' => e = .returned (.bool true) ∧ Below w.heap.size w w' := by
  subst h0
  subst h1
  have HR0 := mk_ hr0
  have HR1 := mk_ hr1
  have HS := mk_ hs
  clear hr0 hc0 hr1 hc1 hs
  go_enter Try.func23, Try.ntmps23
  go_wp2
  go_loopw [5] (fun v5 wr => ∃ q : Nat, q ≤ l.length ∧ v5 = .int .i64 q ∧ Aside0 (Below w.heap.size w wr)) (fun v5 _ => l.length - (intOf v5).toNat)
  case atStart => exact ⟨0, Nat.zero_le _, rfl, ⟨Below.refl _ _⟩⟩
  case round =>
    obtain ⟨q, hq, rfl, HB⟩ := hrel
    by_cases hlt : q < l.length
    · have hl3 := HS.out.1
      have hw : wrap64 ((q : Int) + 1) = ((q + 1 : Nat) : Int) := by unfold wrap64; omega
      have hL := HS.out.2 _ (rd47_mem l q hlt)
      obtain ⟨ad, B0, e0, e, hx0, hx1, hx2, hx3⟩ := at_T47 (Kd.C_below HR0.out HB.out) (q : Int) (by omega) (by omega)
      cases e
      obtain ⟨ad2, B1, e1, e, hy0, hy1, hy2, hy3⟩ := at_T47 (Kd.C_below HR1.out HB.out) (q : Int) (by omega) (by omega)
      cases e
      obtain ⟨P, hP⟩ : ∃ P, rd_T47 l (q : Int) = P := ⟨_, rfl⟩
      obtain ⟨N, L⟩ := P
      rw [hP] at hx0 hx1 hx2 hx3 hy0 hy1 hy2 hy3 hL
      rw [Int.toNat_natCast] at hx0 hx1 hy0 hy1
      dsimp only at hx0 hx1 hx2 hx3 hy0 hy1 hy2 hy3 hL
      have HX3 := mk_ hx3
      have HY3 := mk_ hy3
      have HLL := mk_ hL
      clear hx2 hx3 hy2 hy3 hL hP hl3
      go_wp2
      go_region_held3 (fun w' => w'.cell? (ad.add (q * 2)) = some (.int .i64 N) ∧ w'.cell? ⟨(ad.add (q * 2)).block, (ad.add (q * 2)).off + 1, none⟩ = some (.slice B0 L.length e0) ∧ w'.cell? (ad2.add (q * 2)) = some (.int .i64 N) ∧ w'.cell? ⟨(ad2.add (q * 2)).block, (ad2.add (q * 2)).off + 1, none⟩ = some (.slice B1 L.length e1)) (go_keep) (fail)
      go_wp2
      go_loopw [6] (fun v6 wi => ∃ j : Nat, j ≤ L.length ∧ v6 = .int .i64 j ∧ Aside0 (Below wr.heap.size wr wi)) (fun v6 _ => L.length - (intOf v6).toNat)
      case atStart => exact ⟨0, Nat.zero_le _, rfl, ⟨nw_ (Below.refl _ _)⟩⟩
      case round =>
        obtain ⟨j, hj, rfl, HBI⟩ := hrel
        have hi1 := (HBI.out.cell (lc_ _ _ hx1)).trans hx1
        have hj1 := (HBI.out.cell (lc_ _ _ hy1)).trans hy1
        clear hx0 hx1 hy0 hy1
        by_cases hlt2 : j < L.length
        · have hl3 := HLL.out
          have hw2 : wrap64 ((j : Int) + 1) = ((j + 1 : Nat) : Int) := by unfold wrap64; omega
          obtain ⟨ad3, A3, c3, e, hv0, hv1, hv2, hv3, hv4, hv5⟩ := at_T40 (Kd.C_below HX3.out HBI.out) (j : Int) (by omega) (by omega)
          cases e
          obtain ⟨ad4, A4, c4, e, hu0, hu1, hu2, hu3, hu4, hu5⟩ := at_T40 (Kd.C_below HY3.out HBI.out) (j : Int) (by omega) (by omega)
          cases e
          obtain ⟨P, hP⟩ : ∃ P, rd_T40 L (j : Int) = P := ⟨_, rfl⟩
          obtain ⟨x0, x1, x2, D⟩ := P
          rw [hP] at hv0 hv1 hv2 hv3 hv4 hv5 hu0 hu1 hu2 hu3 hu4 hu5
          rw [Int.toNat_natCast] at hv0 hv1 hv2 hv3 hu0 hu1 hu2 hu3
          dsimp only at hv0 hv1 hv2 hv3 hv4 hv5 hu0 hu1 hu2 hu3 hu4 hu5
          have HV4 := mk_ hv4
          have HV5 := mk_ hv5
          have HU4 := mk_ hu4
          have HU5 := mk_ hu5
          clear hv4 hv5 hu4 hu5 hP hl3
          go_wp2
          go_region_held3 (fun w' => w'.cell? ⟨(ad.add (q * 2)).block, (ad.add (q * 2)).off + 1, none⟩ = some (.slice (some ad3) L.length e0) ∧ w'.cell? (ad3.add (j * 4)) = some (.int .i64 x0) ∧ w'.cell? ⟨(ad3.add (j * 4)).block, (ad3.add (j * 4)).off + 1, none⟩ = some (.int .i64 x1) ∧ w'.cell? ⟨(ad3.add (j * 4)).block, (ad3.add (j * 4)).off + 2, none⟩ = some (.int .i64 x2) ∧ w'.cell? ⟨(ad3.add (j * 4)).block, (ad3.add (j * 4)).off + 3, none⟩ = some (.slice A3 D.length c3) ∧ w'.cell? ⟨(ad2.add (q * 2)).block, (ad2.add (q * 2)).off + 1, none⟩ = some (.slice (some ad4) L.length e1) ∧ w'.cell? (ad4.add (j * 4)) = some (.int .i64 x0) ∧ w'.cell? ⟨(ad4.add (j * 4)).block, (ad4.add (j * 4)).off + 1, none⟩ = some (.int .i64 x1) ∧ w'.cell? ⟨(ad4.add (j * 4)).block, (ad4.add (j * 4)).off + 2, none⟩ = some (.int .i64 x2) ∧ w'.cell? ⟨(ad4.add (j * 4)).block, (ad4.add (j * 4)).off + 3, none⟩ = some (.slice A4 D.length c4)) (go_keep) (first | (go_at_call 30; (with_reducible refine (same40_h x0 x1 x2 D A3 _ c3 A4 _ c4 _ rfl rfl ?s0 ?s1 ?s2 ?s3).mono ?_); (case s0 => exact Kd.C_drew HV5.out); (case s1 => exact HV4.out); (case s2 => exact Kd.C_drew HU5.out); (case s3 => exact HU4.out); rintro e w10 ⟨rfl, hb⟩; have hi1' := (hb.cell (lc_ wr _ hi1)).trans hi1; have hj1' := (hb.cell (lc_ wr _ hj1)).trans hj1; have hv0' := (hb.cell (lc_ wr _ hv0)).trans hv0; have hv1' := (hb.cell (lc_ wr _ hv1)).trans hv1; have hv2' := (hb.cell (lc_ wr _ hv2)).trans hv2; have hv3' := (hb.cell (lc_ wr _ hv3)).trans hv3; have hu0' := (hb.cell (lc_ wr _ hu0)).trans hu0; have hu1' := (hb.cell (lc_ wr _ hu1)).trans hu1; have hu2' := (hb.cell (lc_ wr _ hu2)).trans hu2; have hu3' := (hb.cell (lc_ wr _ hu3)).trans hu3; have HB10 := mk_ (below_step (nw_ HBI.out) hb); clear hb))
          go_wp2
          go_roundw
          case rel => exact ⟨j + 1, hlt2, by rw [hw2], HB10⟩
          case measure => exact up_mh hlt2 hw2
        · go_wp2
          go_roundw
          case rel => exact ⟨q + 1, hlt, by rw [hw], ⟨below_step HB.out HBI.out⟩⟩
          case measure => exact up_mh hlt hw
    · go_wp2
      go_ret
      exact ⟨rfl, HB.out⟩
theorem clone1000 {D : List Int} (h : D.length ≤ 1000) : impl_clone_byte.f D = some D := by
  unfold impl_clone_byte.f
  rw [if_pos (by omega)]
theorem inn47_box {w5 w6 : World} {g8 : Nat} {a f t : Int} {A3 : Option Addr} {n3 c3 : Nat} (h : w5.heap[g8]? = some (.cells #[.int .i64 0, .int .i64 0, .int .i64 0, .slice none 0 0] 40 (0, 0))) (hb : Below ((((w5.setCell ⟨g8, 0, none⟩ (.int .i64 a)).setCell ⟨g8, 1, none⟩ (.int .i64 f)).setCell ⟨g8, 2, none⟩ (.int .i64 t)).setCell ⟨g8, 3, none⟩ (.slice A3 n3 c3)).heap.size ((((w5.setCell ⟨g8, 0, none⟩ (.int .i64 a)).setCell ⟨g8, 1, none⟩ (.int .i64 f)).setCell ⟨g8, 2, none⟩ (.int .i64 t)).setCell ⟨g8, 3, none⟩ (.slice A3 n3 c3)) w6) : w6.heap[g8]? = some (.cells #[.int .i64 a, .int .i64 f, .int .i64 t, .slice A3 n3 c3] 40 (0, 0)) :=
  blk_below (blk_put (cs := #[.int .i64 a, .int .i64 f, .int .i64 t, .slice none 0 0]) (blk_put (cs := #[.int .i64 a, .int .i64 f, .int .i64 0, .slice none 0 0]) (blk_put (cs := #[.int .i64 a, .int .i64 0, .int .i64 0, .slice none 0 0]) (blk_put (cs := #[.int .i64 0, .int .i64 0, .int .i64 0, .slice none 0 0]) h 0 (.int .i64 a) rfl) 1 (.int .i64 f) rfl) 2 (.int .i64 t) rfl) 3 (.slice A3 n3 c3) rfl) hb
set_option maxHeartbeats 2000000 in
set_option maxRecDepth 100000 in
theorem impl_ports.clipped (A0 : Option Addr) (c0 : Nat) (l0 : List S47) (w : World) (hr0 : Kd.C k47 w A0 l0.length l0) (hc0 : l0.length ≤ c0) (hs : small47 l0) :
    Calls Try.prog 53 #[.slice A0 l0.length c0] w fun e w' => ∃ A1 : Option Addr, e = .returned (.slice A1 l0.length l0.length) ∧ Kd.S k47S 47 w' w.heap.size (fun _ => True) (.slice A1 l0.length l0.length) l0 ∧ Below w.heap.size w w' := by
  have hu47 := Try.underlying47
  have hu40 := Try.underlying40
  have HR := mk_ hr0
  have HS := mk_ hs
  have HI47 := mk_ info47
  have HI40 := mk_ info40
  clear hr0 hc0 hs
  go_enter Try.func53, Try.ntmps53
  go_wp2
  go_loopw [3, 11] (fun v i wr => ∃ q : Nat, q ≤ l0.length ∧ i = .int .i64 q ∧ Aside0 (Kd.S k47S 47 wr w.heap.size (fun _ => True) v (l0.take q)) ∧ Aside0 (Below w.heap.size w wr)) (fun _ i _ => l0.length - (intOf i).toNat)
  case atStart => exact ⟨0, Nat.zero_le _, rfl, ⟨Kd.S_nil _ _ _ _ _⟩, ⟨Below.refl _ _⟩⟩
  case round =>
    obtain ⟨q, hq, rfl, HO, HB⟩ := hrel
    by_cases hlt : q < l0.length
    · obtain ⟨ad, A1, c1, e, hx0, hx1, hx2, hx3⟩ := at_T47 HR.out (q : Int) (by omega) (by omega)
      cases e
      replace hx0 := (HB.out.cell (lc_ w _ hx0)).trans hx0
      replace hx1 := (HB.out.cell (lc_ w _ hx1)).trans hx1
      rw [Int.toNat_natCast] at hx0 hx1
      have hsp := HS.out.2 _ (rd47_mem l0 q hlt)
      have ht := take47 l0 q hlt
      obtain ⟨P, hP⟩ : ∃ P, rd_T47 l0 (q : Int) = P := ⟨_, rfl⟩
      obtain ⟨N, L⟩ := P
      rw [hP] at hx0 hx1 hx2 hx3 hsp ht
      dsimp only at hx0 hx1 hx2 hx3 hsp
      have HX2 := mk_ hx2
      have HX3 := mk_ hx3
      have HSP := mk_ hsp
      have HT := mk_ ht
      clear hx2 hx3 hsp ht hP
      obtain ⟨B, hB⟩ : ∃ B, wr.heap.size = B := ⟨_, rfl⟩
      have HBB := mk_ hB
      clear hB
      go_wp2_with (first | ((with_reducible refine gate_dst (N := 5) rfl ?_); refine box_event ?hg (N := 5) ?hd (cs := #[.int .i64 0, .slice none 0 0]) (t := 47) ?hr ?_; (case hd => rfl); (case hg => rfl); (case hr => first | (go_simp; done) | (go_simp; rfl)); intro gb hg w2 hbox hb; obtain ⟨hc0, hc1, hf0, hf1⟩ := cells2_ hbox; have HG := mk_ (show wr.heap.size ≤ gb from Nat.le_of_eq hg.symm); have HBX := mk_ hbox; have HBL := mk_ hb; have ge1 := ge_ HG.out; clear hb hbox hg) | ((with_reducible refine gate_dst (N := 6) rfl ?_); refine box_event ?hg (N := 6) ?hd (cs := #[.int .i64 0, .slice none 0 0]) (t := 47) ?hr ?_; (case hd => rfl); (case hg => rfl); (case hr => first | (go_simp; done) | (go_simp; rfl)); intro gq hgq w3 hboxq hbq; have hbx1 := blk_below (blk_put (cs := #[.int .i64 N, .slice none 0 0]) (blk_put (cs := #[.int .i64 0, .slice none 0 0]) HBX.out 0 (.int .i64 N) rfl) 1 (.slice A1 L.length c1) rfl) hbq; have hne : gb ≠ gq := (by rw [hgq]; exact Nat.ne_of_lt (blk_lt (blk_put (cs := #[.int .i64 N, .slice none 0 0]) (blk_put (cs := #[.int .i64 0, .slice none 0 0]) HBX.out 0 (.int .i64 N) rfl) 1 (.slice A1 L.length c1) rfl))); have hen := Ne.symm hne; have HQ := mk_ (show wr.heap.size ≤ gq from (by rw [hgq]; exact (us_ HBL.out : Below wr.heap.size wr _).size)); have HBR := mk_ (below_step (us_ HBL.out) hbq); have ge2 := ge_ HQ.out; have HBQ := mk_ hboxq; obtain ⟨_, _, _, _⟩ := cells2_ hboxq; obtain ⟨hd0, hd1, _, _⟩ := cells2_ hbx1; clear hbq hboxq hbx1 hgq hc0 hc1 hf0 hf1))
      have HIN := mk_ (inn47_start (gq := gq) (N := N) HO.out HB.out (us_ HBR.out) (blk_put (cs := #[.int .i64 N, .slice none 0 0]) (blk_put (cs := #[.int .i64 0, .slice none 0 0]) HBQ.out 0 (.int .i64 N) rfl) 1 (.slice none 0 0) rfl) HQ.out)
      rw [HBB.out] at HIN
      clear HG HBX HBL HBR HQ HBQ hx0 hx1
      go_loopw [21] (fun i wi => ∃ (j : Nat) (v : Value), j ≤ L.length ∧ i = .int .i64 j ∧ Aside0 (inn47 w B gq N u3 (l0.take q) wi v (L.take j))) (fun i _ => L.length - (intOf i).toNat)
      case atStart => exact ⟨0, _, Nat.zero_le _, rfl, HIN⟩
      case round =>
        obtain ⟨j, v, hj, rfl, HIN⟩ := hrel
        clear hd0 hd1
        by_cases hlt2 : j < L.length
        · obtain ⟨ad3, A3, c3, e, hy0, hy1, hy2, hy3, hy4, hy5⟩ := at_T40 HX3.out (j : Int) (by omega) (by omega)
          cases e
          have HBW := HIN.out.2.2.2.1
          replace hy0 := (HBW.cell (lc_ w _ hy0)).trans hy0
          replace hy1 := (HBW.cell (lc_ w _ hy1)).trans hy1
          replace hy2 := (HBW.cell (lc_ w _ hy2)).trans hy2
          replace hy3 := (HBW.cell (lc_ w _ hy3)).trans hy3
          rw [Int.toNat_natCast] at hy0 hy1 hy2 hy3
          have hsd := HSP.out.2 _ (rd40_mem L j hlt2)
          have ht := take40 L j hlt2
          obtain ⟨P, hP⟩ : ∃ P, rd_T40 L (j : Int) = P := ⟨_, rfl⟩
          obtain ⟨a, f, t, D⟩ := P
          rw [hP] at hy0 hy1 hy2 hy3 hy4 hy5 hsd ht
          dsimp only at hy0 hy1 hy2 hy3 hy4 hy5 hsd
          obtain ⟨Y, hY⟩ : ∃ Y, L.take j = Y := ⟨_, rfl⟩
          have hyl : Y.length ≤ L.length := by rw [← hY]; exact List.length_take_le' j L
          rw [hY] at HIN ht
          have HYL := mk_ hyl
          obtain ⟨Y1, hY1⟩ : ∃ Y1, Y ++ [(⟨a, f, t, D⟩ : S40)] = Y1 := ⟨_, rfl⟩
          rw [hY1] at ht
          have NY := mk_ hY1
          have HJ1 := mk_ (show j + 1 ≤ L.length from hlt2)
          clear hY hyl hY1
          obtain ⟨Av, cv, hv⟩ := Kd.S_slice HIN.out.2.1
          subst hv
          obtain ⟨hq0, hq1, hqf0, hqf1⟩ := inn47_cells HIN.out
          have HY4 := mk_ hy4
          have HY5 := mk_ (Kd.C_below hy5 HBW)
          have HSD := mk_ hsd
          have HT2 := mk_ ht
          have HJ := mk_ hj
          clear hy4 hy5 hsd ht hP HBW
          go_wp2_with (first | ((with_reducible refine gate_dst (N := 8) rfl ?_); refine box_event ?hg (N := 8) ?hd (cs := #[.int .i64 0, .int .i64 0, .int .i64 0, .slice none 0 0]) (t := 40) ?hr ?_; (case hd => rfl); (case hg => rfl); (case hr => first | (go_simp; done) | (go_simp; rfl)); intro g8 hg8 w5 hbox8 hb8; have HG8 := mk_ (show wr.heap.size ≤ g8 from Nat.le_of_eq hg8.symm); have HB5 := mk_ hb8; have HBX8 := mk_ hbox8; have ge8 := ge_ HG8.out; obtain ⟨_, _, _, _, _, _, _, _⟩ := cells4_ hbox8; clear hg8 hbox8 hb8) | (go_at_call 71; (with_reducible refine (impl_clone_byte.calls A3 c3 D D _ ?s1 ?s2 ?s3).mono ?_); (case s1 => exact Kd.C_below HY5.out (us_ HB5.out)); (case s2 => exact HY4.out); (case s3 => exact clone1000 HSD.out); rintro e w6 ⟨v6, rfl, hr6, hb6⟩; obtain ⟨A6, c6, hv6⟩ := Kd.R_slice hr6; subst hv6; have HX8 := mk_ (inn47_box HBX8.out hb6); have h5 := mk_ (us_ HB5.out : Below wr.heap.size wr ((((w5.setCell ⟨g8, 0, none⟩ (.int .i64 a)).setCell ⟨g8, 1, none⟩ (.int .i64 f)).setCell ⟨g8, 2, none⟩ (.int .i64 t)).setCell ⟨g8, 3, none⟩ (.slice A3 D.length c3))); have HB6 := mk_ (below_step h5.out hb6); have HR6 := mk_ hr6; replace hq1 := (HB6.out.cell (lc_ _ _ hq1)).trans hq1; have hn8 : gq ≠ g8 := (Nat.ne_of_lt (Nat.lt_of_lt_of_le (blk_lt HIN.out.1) HG8.out)); have hn9 := Ne.symm hn8; obtain ⟨_, _, _, _, _, _, _, _⟩ := cells4_ HX8.out; clear hq0 hqf0 hqf1 hr6 hb6) | ((with_reducible refine gate_builtin (b := .append) (xs := #[.tmp 30, .tmp 32]) rfl ?_); at_builtin; have HW := mk_ (inn47_old HIN.out (us_ HB6.out : Below wr.heap.size wr (w6.setCell ⟨g8, 3, none⟩ (.slice A6 D.length c6)))); have HIW := mk_ (inn47_below HIN.out (us_ HB6.out : Below wr.heap.size wr (w6.setCell ⟨g8, 3, none⟩ (.slice A6 D.length c6)))); refine Kd.S_append k40 (w0 := w) w.heap.size rfl (.tmp 30) (.tmp 32) 45 40 (.agg #[(.int .i64 0), (.int .i64 0), (.int .i64 0), (.slice none 0 0)]) 48 rfl Try.underlying45 HI40.out rfl (by decide) (by omega) (.slice Av Y.length cv) Y (⟨a, f, t, D⟩ : S40) [.int .i64 a, .int .i64 f, .int .i64 t, .slice A6 D.length c6] (fun k => B ≤ k) (fun k => wr.heap.size ≤ k) rfl (slice_at (setCell_size _ _ _).symm) (inn47_mail HR6.out h5.out HIN.out.2.2.2.1.size HX8.out) HW.out.2.1 HW.out.2.2 HW.out.1 HIW.out.2.2.2.1 HIW.out.2.2.2.1.size (by have h1_ := HSP.out.1; have h2_ := HYL.out; omega) ?_; intro v1 w7 ho hb hg hat; rw [NY.out] at ho; obtain ⟨A7, c7, hv7⟩ := Kd.S_slice ho; subst hv7; obtain ⟨_, _, _, _⟩ := cells2_ (inn47_new HIW.out hg); have HIN7 := mk_ (inn47_put HIW.out ho hb hg); clear ho hb hg hat))
          go_roundw
          case rel => exact ⟨j + 1, _, HJ1.out, by rw [wrap_next j (by have h1_ := HSP.out.1; have h2_ := HJ1.out; omega)], ⟨by rw [HT2.out]; exact HIN7.out⟩⟩
          case measure => have h1_ := HSP.out.1; have h2_ := HJ1.out; rw [wrap_next j (by omega)]; simp only [intOf, Int.toNat_natCast]; omega
        · obtain rfl : j = L.length := by omega
          have HI := HIN.out
          rw [List.take_length] at HI
          obtain ⟨Av, cv, hv⟩ := Kd.S_slice HI.2.1
          subst hv
          obtain ⟨hq0, hq1, hqf0, hqf1⟩ := inn47_cells HI
          obtain ⟨_, hlv, hcv⟩ := Kd.S_reads' HI.2.1
          have hmv := hcv.2.1
          have HIQ := mk_ HI
          have HQL := mk_ hq
          have HQ1 := mk_ (show q + 1 ≤ l0.length from hlt)
          clear hcv HI HIN
          go_wp2_with (first | (go_at_call 82; (with_reducible refine (clip40.calls _ _ _ _ hlv hmv).mono ?_); rintro e w' ⟨rfl, ⟨nd, rfl⟩⟩; have HP := mk_ (inn47_port (nd := nd) HIQ.out)) | ((with_reducible refine gate_builtin (b := .append) (xs := #[.tmp 40, .tmp 42]) rfl ?_); at_builtin; refine Kd.S_append k47S (w0 := w) w.heap.size rfl (.tmp 40) (.tmp 42) 25 47 (.agg #[(.int .i64 0), (.slice none 0 0)]) 32 rfl Try.underlying25 HI47.out rfl (by decide) (by omega) _ (l0.take q) (⟨N, L⟩ : S47) [.int .i64 N, .slice Av L.length L.length] (fun _ => True) (fun k => B ≤ k) rfl (slice_at (setCell_size _ _ _).symm) HP.out.1 HP.out.2.1 (fun _ _ => trivial) HP.out.2.2.1 HP.out.2.2.2 HP.out.2.2.2.size (by have h1_ := HS.out.1; have h2_ := HQL.out; rw [List.length_take]; omega) ?_; intro v1 w7 ho hb hg hat; have HO9 := mk_ ho; have HB9 := mk_ hb; clear ho hb hg hat))
          go_roundw
          case rel => exact ⟨q + 1, HQ1.out, by rw [wrap_next q (by have h1_ := HS.out.1; have h2_ := HQ1.out; omega)], ⟨by rw [HT.out]; exact HO9.out⟩, HB9⟩
          case measure => have h1_ := HS.out.1; have h2_ := HQ1.out; rw [wrap_next q (by omega)]; simp only [intOf, Int.toNat_natCast]; omega
    · obtain rfl : q = l0.length := by omega
      have HO2 := HO.out
      rw [List.take_length] at HO2
      obtain ⟨A2, c2, hv2, hl2, hr2⟩ := Kd.S_reads HO2
      subst hv2
      have HO3 := mk_ HO2
      have hmax := hr2.2.1
      clear HO2 hr2 HO
      go_wp2_with (go_at_call 83; (with_reducible refine (clip47.calls _ _ _ _ hl2 hmax).mono ?_); rintro e w' ⟨rfl, ⟨nd, rfl⟩⟩)
      go_ret
      exact ⟨_, rfl, Kd.S_clip (by exact Kd.S_drewN HO3.out _) rfl, pw_below_drewN HB.out _⟩
theorem impl_ports.calls (A0 : Option Addr) (c0 : Nat) (l0 : List S47) (w : World) (hr0 : Kd.C k47 w A0 l0.length l0) (hc0 : l0.length ≤ c0) (hs : small47 l0) :
    Calls Try.prog 53 #[.slice A0 l0.length c0] w fun e w' => ∃ v0_ : Value, e = .returned (v0_) ∧ Kd.S k47S 47 w' w.heap.size (fun _ => True) v0_ l0 ∧ Below w.heap.size w w' := by
  refine (impl_ports.clipped A0 c0 l0 w hr0 hc0 hs).mono ?_
  rintro e w' ⟨A1, rfl, h, hb⟩
  exact ⟨_, rfl, h, hb⟩
def cmpI (N t : Int) : Int := if N < t then -1 else if N > t then 1 else 0
theorem portAt_1_at (N : Int) (L : List S40) (t : Int) : impl_portAt_1.f N L t = some (cmpI N t) := by
  unfold impl_portAt_1.f cmp_Compare_int.f cmp_isNaN_int.f cmpI
  by_cases h1 : N < t
  · simp [h1]
  · by_cases h2 : N > t
    · simp [h1, h2]
    · simp [h1, h2]
theorem cmpI_neg (N t : Int) : decide (cmpI N t < 0) = decide (N < t) := by
  unfold cmpI
  by_cases h1 : N < t
  · simp [h1]
  · by_cases h2 : N > t
    · simp [h1, h2]
    · simp [h1, h2]
theorem cmpI_zero (N t : Int) : (cmpI N t == 0) = decide (N = t) := by
  unfold cmpI
  by_cases h1 : N < t
  · have : ¬ N = t := by omega
    simp [h1, this]
  · by_cases h2 : N > t
    · have : ¬ N = t := by omega
      simp [h1, h2, this]
    · have : N = t := by omega
      simp [this]
def up47 (l : List S47) : Prop := ∀ i j : Nat, i < j → j < l.length → (rd_T47 l (i : Int)).f0 < (rd_T47 l (j : Int)).f0
theorem half_at (p q : Nat) (hp : p ≤ q) (hq : q ≤ 1000) : wrap64 (IntKind.u64.wrap (wrap64 ((p : Int) + (q : Int))) / 2) = (((p + q) / 2 : Nat) : Int) := by
  rw [show wrap64 ((p : Int) + (q : Int)) = (p : Int) + (q : Int) by unfold wrap64; omega, show IntKind.u64.wrap ((p : Int) + (q : Int)) = (p : Int) + (q : Int) by
    show ((p : Int) + (q : Int)) % 18446744073709551616 = _
    omega]
  unfold wrap64
  omega
set_option maxHeartbeats 2000000 in
set_option maxRecDepth 100000 in
theorem bsearch.calls (A0 : Option Addr) (c0 : Nat) (l0 : List S47) (t : Int) (w : World) (hr0 : Kd.C k47 w A0 l0.length l0) (hs : l0.length ≤ 1000) (hu : up47 l0) :
    Calls Try.prog 84 #[.slice A0 l0.length c0, .int .i64 t, .func (.func 85) #[] #[]] w fun e w' => (∃ (p : Nat) (b : Bool), p ≤ l0.length ∧ (∀ x : Nat, x < p → (rd_T47 l0 (x : Int)).f0 < t) ∧ (∀ x : Nat, p ≤ x → x < l0.length → t ≤ (rd_T47 l0 (x : Int)).f0) ∧ (b = true ↔ p < l0.length ∧ (rd_T47 l0 (p : Int)).f0 = t) ∧ e = .returned (.tuple #[.int .i64 p, .bool b])) ∧ Below w.heap.size w w' := by
  have hu47 := Try.underlying47
  have HR := mk_ hr0
  have HS := mk_ hs
  have HU := mk_ hu
  clear hr0 hs hu
  go_enter Try.func84, Try.ntmps84
  go_wp2
  go_loopw [9, 10] (fun i j wr => ∃ p q : Nat, p ≤ q ∧ q ≤ l0.length ∧ i = .int .i64 p ∧ j = .int .i64 q ∧ Aside0 (∀ x : Nat, x < p → (rd_T47 l0 (x : Int)).f0 < t) ∧ Aside0 (∀ x : Nat, q ≤ x → x < l0.length → t ≤ (rd_T47 l0 (x : Int)).f0) ∧ Aside0 (Below w.heap.size w wr)) (fun i j _ => (intOf j).toNat - (intOf i).toNat)
  case atStart => exact ⟨0, l0.length, Nat.zero_le _, Nat.le_refl _, rfl, rfl, ⟨fun x hx => absurd hx (Nat.not_lt_zero x)⟩, ⟨fun x h1 h2 => by omega⟩, ⟨Below.refl _ _⟩⟩
  case round =>
    obtain ⟨p, q, hpq, hq, rfl, rfl, HL, HG, HB⟩ := hrel
    by_cases hlt : p < q
    · have hh := half_at p q hpq (by have := HS.out; omega)
      obtain ⟨h, hd⟩ : ∃ h, (p + q) / 2 = h := ⟨_, rfl⟩
      rw [hd] at hh
      have hph : p ≤ h := by omega
      have hhq : h < q := by omega
      have hhl : h < l0.length := by omega
      obtain ⟨ad, A1, c1, e, hx0, hx1, hx2, hx3⟩ := at_T47 HR.out (h : Int) (by omega) (by omega)
      cases e
      replace hx0 := (HB.out.cell (lc_ w _ hx0)).trans hx0
      replace hx1 := (HB.out.cell (lc_ w _ hx1)).trans hx1
      rw [Int.toNat_natCast] at hx0 hx1
      have HX2 := mk_ hx2
      have HX3 := mk_ (Kd.C_below hx3 HB.out)
      have HF := mk_ (And.intro hph (And.intro hhq (And.intro hpq hq)))
      clear hx2 hx3 hd
      by_cases hc : (rd_T47 l0 (h : Int)).f0 < t
      · have hneg : decide (cmpI (rd_T47 l0 (h : Int)).f0 t < 0) = true := (cmpI_neg _ _).trans (decide_eq_true hc)
        have HC := mk_ hc
        have hwn := wrap_next h (by have := HS.out; omega)
        clear hc
        go_wp2_with (go_at_call 85; (with_reducible refine (impl_portAt_1.calls (rd_T47 l0 (h : Int)).f0 _ _ (rd_T47 l0 (h : Int)).f1 t _ _ ?s1 ?s2 (portAt_1_at _ _ _)).mono ?_); (case s1 => exact HX3.out); (case s2 => exact HX2.out); rintro e w1 ⟨rfl, hb⟩; have HB1 := mk_ (below_step HB.out hb); clear hb)
        go_roundw
        case rel => exact ⟨h + 1, q, by have := HF.out; omega, HF.out.2.2.2, by rw [wrap_next h (by have := HS.out; have := HF.out; omega)], rfl, ⟨fun x hx => by
          rcases Nat.lt_or_eq_of_le (Nat.lt_succ_iff.mp hx) with h1 | h1
          · have := HU.out x h h1 (by have := HF.out; omega)
            have := HC.out
            omega
          · rw [h1]; exact HC.out⟩, HG, HB1⟩
        case measure => have h1_ := HF.out; rw [wrap_next h (by have := HS.out; omega)]; simp only [intOf, Int.toNat_natCast]; omega
      · have hneg : decide (cmpI (rd_T47 l0 (h : Int)).f0 t < 0) = false := (cmpI_neg _ _).trans (decide_eq_false hc)
        have HC := mk_ hc
        clear hc
        go_wp2_with (go_at_call 85; (with_reducible refine (impl_portAt_1.calls (rd_T47 l0 (h : Int)).f0 _ _ (rd_T47 l0 (h : Int)).f1 t _ _ ?s1 ?s2 (portAt_1_at _ _ _)).mono ?_); (case s1 => exact HX3.out); (case s2 => exact HX2.out); rintro e w1 ⟨rfl, hb⟩; have HB1 := mk_ (below_step HB.out hb); clear hb)
        go_roundw
        case rel => exact ⟨p, h, HF.out.1, by have := HF.out; omega, rfl, rfl, HL, ⟨fun x hx hx2 => by
          rcases Nat.eq_or_lt_of_le hx with h1 | h1
          · rw [← h1]; have := HC.out; omega
          · have := HU.out h x h1 hx2
            have := HC.out
            omega⟩, HB1⟩
        case measure => have h1_ := HF.out; simp only [intOf, Int.toNat_natCast]; omega
    · obtain rfl : p = q := by omega
      by_cases hend : p < l0.length
      · obtain ⟨ad, A1, c1, e, hx0, hx1, hx2, hx3⟩ := at_T47 HR.out (p : Int) (by omega) (by omega)
        cases e
        replace hx0 := (HB.out.cell (lc_ w _ hx0)).trans hx0
        replace hx1 := (HB.out.cell (lc_ w _ hx1)).trans hx1
        rw [Int.toNat_natCast] at hx0 hx1
        have HX2 := mk_ hx2
        have HX3 := mk_ (Kd.C_below hx3 HB.out)
        have b0 : decide (p < l0.length) = true := decide_eq_true hend
        have BE := mk_ (show (cmpI (rd_T47 l0 (p : Int)).f0 t == 0) = true ↔ p < l0.length ∧ (rd_T47 l0 (p : Int)).f0 = t from by rw [cmpI_zero]; simp [hend])
        have b1 : decide ((p : Int) < (l0.length : Int)) = true := decide_eq_true (by omega)
        clear hx2 hx3
        go_wp2_with (go_at_call 85; (with_reducible refine (impl_portAt_1.calls (rd_T47 l0 (p : Int)).f0 _ _ (rd_T47 l0 (p : Int)).f1 t _ _ ?s1 ?s2 (portAt_1_at _ _ _)).mono ?_); (case s1 => exact HX3.out); (case s2 => exact HX2.out); rintro e w1 ⟨rfl, hb⟩; have HB1 := mk_ (below_step HB.out hb); clear hb)
        refine bodyPost_ret (results_list (rs := [.tmp 6, .tmp 7]) rfl (by simp) (.tmp (.tmp .nil))) rfl ?_
        exact ⟨⟨p, _, hq, HL.out, HG.out, BE.out, rfl⟩, HB1.out⟩
      · have b0 : decide (p < l0.length) = false := decide_eq_false hend
        have b1 : decide ((p : Int) < (l0.length : Int)) = false := decide_eq_false (by omega)
        have BE := mk_ (show false = true ↔ p < l0.length ∧ (rd_T47 l0 (p : Int)).f0 = t from by simp [hend])
        go_wp2
        refine bodyPost_ret (results_list (rs := [.tmp 6, .tmp 7]) rfl (by simp) (.tmp (.tmp .nil))) rfl ?_
        exact ⟨⟨p, _, hq, HL.out, HG.out, BE.out, rfl⟩, HB.out⟩
/-- The place of a port: the first whose number is not less. -/
theorem impl_portAt.calls (A0 : Option Addr) (c0 : Nat) (l0 : List S47) (t : Int) (w : World) (hr0 : Kd.C k47 w A0 l0.length l0) (hs : l0.length ≤ 1000) (hu : up47 l0) :
    Calls Try.prog 54 #[.slice A0 l0.length c0, .int .i64 t] w fun e w' => (∃ (p : Nat) (b : Bool), p ≤ l0.length ∧ (∀ x : Nat, x < p → (rd_T47 l0 (x : Int)).f0 < t) ∧ (∀ x : Nat, p ≤ x → x < l0.length → t ≤ (rd_T47 l0 (x : Int)).f0) ∧ (b = true ↔ p < l0.length ∧ (rd_T47 l0 (p : Int)).f0 = t) ∧ e = .returned (.tuple #[.int .i64 p, .bool b])) ∧ Below w.heap.size w w' := by
  have HR := mk_ hr0
  have HS := mk_ hs
  have HU := mk_ hu
  clear hr0 hs hu
  go_enter Try.func54, Try.ntmps54
  go_wp2_with (go_at_call 84; (with_reducible refine (bsearch.calls A0 c0 l0 t _ ?s1 ?s2 ?s3).mono ?_); (case s1 => exact HR.out); (case s2 => exact HS.out); (case s3 => exact HU.out); rintro e w1 ⟨⟨p, b, hp, hl, hg, hbb, rfl⟩, hb⟩; have HP := mk_ (And.intro hp (And.intro hl (And.intro hg hbb))); have HB1 := mk_ hb; clear hp hl hg hbb hb)
  refine bodyPost_ret (results_list (rs := [.tmp 4, .tmp 5]) rfl (by simp) (.tmp (.tmp .nil))) rfl ?_
  exact ⟨⟨p, b, HP.out.1, HP.out.2.1, HP.out.2.2.1, HP.out.2.2.2, rfl⟩, HB1.out⟩
theorem find_at (l : List S47) (a : Int) (p : Nat) (hp : p < l.length) (hl : ∀ x : Nat, x < p → (rd_T47 l (x : Int)).f0 < a) (h : (rd_T47 l (p : Int)).f0 = a) : l.findIdx (fun p => p.f0 == a) = p := by
  rw [List.findIdx_eq hp]
  have e : ∀ x : Nat, (hx : x < l.length) → rd_T47 l (x : Int) = l[x] := fun x hx => by
    unfold rd_T47
    rw [Int.toNat_natCast, List.getD_eq_getElem?_getD, List.getElem?_eq_getElem hx]
    rfl
  refine ⟨by rw [← e p hp, h]; simp, fun j hj => ?_⟩
  have := hl j hj
  rw [e j (by omega)] at this
  simp
  omega
theorem find_none (l : List S47) (a : Int) (p : Nat) (hl : ∀ x : Nat, x < p → (rd_T47 l (x : Int)).f0 < a) (hg : ∀ x : Nat, p ≤ x → x < l.length → a ≤ (rd_T47 l (x : Int)).f0) (hu : up47 l) (h : ¬ (p < l.length ∧ (rd_T47 l (p : Int)).f0 = a)) : ¬ l.findIdx (fun p => p.f0 == a) < l.length := by
  intro hlt
  have h1 := List.findIdx_getElem (w := hlt)
  have e : ∀ x : Nat, (hx : x < l.length) → rd_T47 l (x : Int) = l[x] := fun x hx => by
    unfold rd_T47
    rw [Int.toNat_natCast, List.getD_eq_getElem?_getD, List.getElem?_eq_getElem hx]
    rfl
  rw [← e _ hlt] at h1
  have h2 : (rd_T47 l ((l.findIdx (fun p => p.f0 == a) : Nat) : Int)).f0 = a := by simpa using h1
  generalize l.findIdx (fun p => p.f0 == a) = i at *
  rcases Nat.lt_or_ge i p with h3 | h3
  · have := hl i h3; omega
  · rcases Nat.eq_or_lt_of_le h3 with h4 | h4
    · subst h4; exact h ⟨hlt, h2⟩
    · have h5 := hu p i h4 hlt
      have := hg p (Nat.le_refl _) (by omega)
      omega
def place47 (l : List S47) (t : Int) (p : Nat) (b : Bool) : Prop := p ≤ l.length ∧ (∀ x : Nat, x < p → (rd_T47 l (x : Int)).f0 < t) ∧ (∀ x : Nat, p ≤ x → x < l.length → t ≤ (rd_T47 l (x : Int)).f0) ∧ (b = true ↔ p < l.length ∧ (rd_T47 l (p : Int)).f0 = t)
theorem place47_one {l : List S47} {t : Int} {p q : Nat} {b c : Bool} (h : place47 l t p b) (k : place47 l t q c) : p = q ∧ b = c := by
  obtain ⟨h1, h2, h3, h4⟩ := h
  obtain ⟨k1, k2, k3, k4⟩ := k
  have e : p = q := by
    rcases Nat.lt_trichotomy p q with h | h | h
    · have := k2 p h; have := h3 p (Nat.le_refl _) (by omega); omega
    · exact h
    · have := h2 q h; have := k3 q (Nat.le_refl _) (by omega); omega
  subst e
  refine ⟨rfl, ?_⟩
  cases b <;> cases c <;> simp_all
theorem place47_is (l : List S47) (t : Int) (hu : up47 l) : ∃ p b, place47 l t p b := by
  have key : ∀ n : Nat, n ≤ l.length → ∃ p : Nat, p ≤ n ∧ (∀ x : Nat, x < p → (rd_T47 l (x : Int)).f0 < t) ∧ (∀ x : Nat, p ≤ x → x < n → t ≤ (rd_T47 l (x : Int)).f0) := by
    intro n
    induction n with
    | zero => exact fun _ => ⟨0, Nat.le_refl _, fun x hx => by omega, fun x _ hx => by omega⟩
    | succ n ih =>
      intro hn
      obtain ⟨p, hp, h1, h2⟩ := ih (by omega)
      by_cases hpn : p = n
      · by_cases hlt : (rd_T47 l (n : Int)).f0 < t
        · refine ⟨n + 1, Nat.le_refl _, fun x hx => ?_, fun x h3 h4 => by omega⟩
          rcases Nat.lt_or_eq_of_le (Nat.lt_succ_iff.mp hx) with h5 | h5
          · exact h1 x (by omega)
          · rw [h5]; exact hlt
        · refine ⟨n, by omega, fun x hx => h1 x (by omega), fun x h3 h4 => ?_⟩
          have : x = n := by omega
          subst this
          omega
      · refine ⟨p, by omega, h1, fun x h3 h4 => ?_⟩
        rcases Nat.lt_or_eq_of_le (Nat.lt_succ_iff.mp h4) with h5 | h5
        · exact h2 x h3 h5
        · subst h5
          have := hu p x (by omega) (by omega)
          have := h2 p (Nat.le_refl _) (by omega)
          omega
  obtain ⟨p, hp, h1, h2⟩ := key l.length (Nat.le_refl _)
  exact ⟨p, decide (p < l.length ∧ (rd_T47 l (p : Int)).f0 = t), hp, h1, h2, by simp⟩
theorem impl_portAt.at_ (A0 : Option Addr) (c0 : Nat) (l0 : List S47) (t : Int) (p : Nat) (b : Bool) (w : World) (hr0 : Kd.C k47 w A0 l0.length l0) (hs : l0.length ≤ 1000) (hu : up47 l0) (hp : place47 l0 t p b) :
    Calls Try.prog 54 #[.slice A0 l0.length c0, .int .i64 t] w fun e w' => e = .returned (.tuple #[.int .i64 p, .bool b]) ∧ Below w.heap.size w w' := by
  refine (impl_portAt.calls A0 c0 l0 t w hr0 hs hu).mono ?_
  rintro e w' ⟨⟨q, c, h1, h2, h3, h4, rfl⟩, hb⟩
  obtain ⟨rfl, rfl⟩ := place47_one hp ⟨h1, h2, h3, h4⟩
  exact ⟨rfl, hb⟩
theorem place47_find {l : List S47} {t : Int} {p : Nat} (h : place47 l t p true) : l.findIdx (fun p => p.f0 == t) = p ∧ p < l.length ∧ (rd_T47 l (p : Int)).f0 = t := by
  obtain ⟨h1, h2, h3, h4⟩ := h
  obtain ⟨h5, h6⟩ := h4.mp rfl
  exact ⟨find_at l t p h5 h2 h6, h5, h6⟩
theorem place47_none {l : List S47} {t : Int} {p : Nat} (h : place47 l t p false) (hu : up47 l) : ¬ l.findIdx (fun p => p.f0 == t) < l.length := by
  obtain ⟨h1, h2, h3, h4⟩ := h
  exact find_none l t p h2 h3 hu (fun hk => by simpa using h4.mpr hk)
end Go.Proofs.Ytkkibccnpkbbjaa.MFnPortsOk
