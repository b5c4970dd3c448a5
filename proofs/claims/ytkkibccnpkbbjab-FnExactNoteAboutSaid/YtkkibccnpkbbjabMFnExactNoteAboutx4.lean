/- Functions that the law FnExactNoteAbout reaches, each with the proof that the machine's call comes to just its answer; no conditions but those that each theorem states. Printed by a program of this session over the kit's print. -/
import Derived.Test.YtkkibccnpkbbjabMFnExactNoteAboutx0
import Derived.Test.YtkkibccnpkbbjabMFnExactNoteAboutx2
import Derived.Test.YtkkibccnpkbbjabMFnExactNoteAboutx3
import Derived.RangeFuncNested
import Derived.RangeFuncBound
import Derived.RangeFuncCalls
import Derived.RangeFuncLeaves
import Derived.RangeFuncBox
import Derived.RangeFuncFrom
import Derived.RangeFuncWrites
import Derived.Shelf.Abstract
import Derived.WalkKit
import Derived.OwnWalkIn
import Derived.TacticsInMore
import Derived.LoopNIn
import Derived.LoopIn
import Derived.BigRegionIn
namespace Go.Proofs.Ytkkibccnpkbbjab.MFnExactNoteAbout
open Go.RowKit Go.Proofs.YtkkibccnpkbbjabV.PrintWords Go.Proofs.YtkkibccnpkbbjabV.PrintLast Go.Proofs.YtkkibccnpkbbjabV.PrintMore
attribute [local go_sem] max2_int min2_int max_two min_two max_three min_three max_four min_four   -- for this text's walks alone
set_option linter.unusedVariables false
set_option linter.unusedSimpArgs false

/-! ### impl_NoteFault: function 22 -/
def impl_NoteFault.f (k : Nat) (a0_0 : Int) (a0_1 : Int) (a0_2 : Int) (a0_3 : Int) (a0_4 : Int) (a0_5 : Int) (a0_6 : Bool) (a0_7 : Bool) (l0_8 : List Int) : Option (Bool) := (impl_NoteFrom.f k l0_8).bind fun bt151 => (if bt151.2.2.2 = true then (if a0_2 = 1 then (some (decide (bt151.1 ≥ 3))) else (some false)) else (some false))
theorem impl_NoteFault.mono : ∀ a0 a1 a2 a3 a4 a5 a6 a7 a8 k, LeO (impl_NoteFault.f k a0 a1 a2 a3 a4 a5 a6 a7 a8) (impl_NoteFault.f (k + 1) a0 a1 a2 a3 a4 a5 a6 a7 a8) := by
 intro a0 a1 a2 a3 a4 a5 a6 a7 a8 k
 unfold impl_NoteFault.f
 repeat' first
   | (with_reducible exact impl_NoteFrom.mono _ _)
   | (with_reducible exact LeO.refl _)
   | (with_reducible exact LeO.none _)
   | (with_reducible refine LeO.ite ?_ ?_)
   | (with_reducible refine LeO.bind ?_ (fun _ => ?_))
   | exact impl_NoteFrom.mono _ _
   | exact LeO.none _
   | refine LeO.ite ?_ ?_
   | refine LeO.bind ?_ (fun _ => ?_)
set_option maxHeartbeats 8000000 in
set_option maxRecDepth 100000 in
theorem impl_NoteFault.calls (k : Nat) (a0_0 : Int) (a0_1 : Int) (a0_2 : Int) (a0_3 : Int) (a0_4 : Int) (a0_5 : Int) (a0_6 : Bool) (a0_7 : Bool) (A0_8 : Option Addr) (c0_8 : Nat) (l0_8 : List Int) (r : Bool) (w : World) (hr0_8 : Kd.C (Kd.int .u8) w A0_8 l0_8.length l0_8) (hc0_8 : l0_8.length ≤ c0_8) (h : impl_NoteFault.f k a0_0 a0_1 a0_2 a0_3 a0_4 a0_5 a0_6 a0_7 l0_8 = some r) :
  Calls Try.prog 22 #[.agg #[.int .i64 a0_0, .int .i64 a0_1, .int .i64 a0_2, .int .i64 a0_3, .int .i64 a0_4, .int .i64 a0_5, .bool a0_6, .bool a0_7, .slice A0_8 l0_8.length c0_8]] w fun e w' => e = .returned (.bool r) ∧ Below w.heap.size w w' := by
 have hu37 := Try.underlying37
 have hu44 := Try.underlying44
 have HR0_8 := mk_ hr0_8
 have HC0_8 := mk_ hc0_8
 clear hr0_8 hc0_8
 have HB := mk_ (Below.refl w.heap.size w)
 have H := h
 unfold impl_NoteFault.f at H
 clear h
 replace H := Option.bind_eq_some_iff.mp H
 obtain ⟨⟨t151, t152, t153, t156⟩, A20, H⟩ := H
 (try dsimp only at H)
 have A2 := mk_ A20
 clear A20
 by_cases c3 : t156 = true
 rotate_left
 focus
  replace c3 := Bool.eq_false_iff.mpr c3
  subst c3
  have H1 : (some false) = some r := by rw [if_neg (show ¬ (false = true) by decide)] at H; exact H
  clear H
  have H := H1
  clear H1
  obtain rfl := Option.some.inj H
 rotate_left
 focus
  subst c3
  rw [if_pos rfl] at H
  by_cases c4 : a0_2 = 1
  rotate_left
  focus
   rw [if_neg c4] at H
   have c4b0 : (a0_2 == 1) = false := beq_eq_false_iff_ne.mpr c4
   have c4b1 : (a0_2 != 1) = true := bne_iff_ne.mpr c4
   obtain rfl := Option.some.inj H
  rotate_left
  focus
   rw [if_pos c4] at H
   have c4b0 : (a0_2 == 1) = true := beq_iff_eq.mpr c4
   have c4b1 : (a0_2 != 1) = false := bne_eq_false_iff_eq.mpr c4
   clear c4
   obtain rfl := Option.some.inj H
  rotate_left
 rotate_left 2
 all_goals
  go_enter Try.func22, Try.ntmps22
 ·go_wp2_with (first | ((with_reducible refine gate_dst (N := 1) rfl ?_); refine box_event ?hg (N := 1) ?hd (cs := #[.int .i64 a0_0, .int .i64 a0_1, .int .i64 a0_2, .int .i64 a0_3, .int .i64 a0_4, .int .i64 a0_5, .bool a0_6, .bool a0_7, .slice A0_8 l0_8.length c0_8]) (t := 37) ?hr ?_; (case hd => rfl); (case hg => rfl); (case hr => first | (go_simp; done) | (go_simp; rfl)); intro gb980 hg w981 hbox hb; have n0_ := mk_ (below_step (ub_ HB.out) hb); have BK150 := mk_ (hbox); have GW150 := mk_ ((by rw [hg]; exact (below_size (ub_ HB.out)) : w.heap.size ≤ gb980)); have GE150 := ge_ ((by rw [hg]; exact (below_size (ub_ HB.out)) : w.heap.size ≤ gb980)); replace HB := n0_; clear n0_; clear hb hbox hg; obtain ⟨_, _, _, _, _, _, _, _, _, _, _, _, _, _, _, _, _, _⟩ := cells9_ BK150.out) | ((with_reducible refine gate_callee (f := 19) rfl ?_); refine goesL_ (some 8) rfl rfl Try.func19 (by kernel_rfl) rfl #[.slice A0_8 l0_8.length c0_8] rfl (by (try simp only [lm_, lo_, ln_]); try rfl) ?_; (with_reducible refine (impl_NoteFrom.calls k _ _ l0_8 t151 t152 t153 false _ ?side1 ?side2 A2.out).mono ?_); (case side1 => repeat (first | exact (Kd.C_below HR0_8.out HB.out) | (with_reducible refine Kd.C_alloc ?_ _) | (with_reducible refine Kd.C_drewN ?_ _) | (with_reducible refine Kd.C_drew ?_))); (case side2 => exact HC0_8.out); rintro e w1020 ⟨v1021, rfl, ho1022, hb⟩; refine ⟨_, rfl, ?_⟩; have HO155 := mk_ (Kd.R_lower ho1022 (below_size (us_ HB.out))); replace BK150 := mk_ (blk_below (u_ BK150.out) hb); replace HB := mk_ (below_step (us_ HB.out) hb)) | ((with_reducible refine gate_dst (N := 3) rfl ?_); refine box_event ?hg (N := 3) ?hd (cs := #[.int .i64 0, .int .i64 0, .slice none 0 0]) (t := 44) ?hr ?_; (case hd => rfl); (case hg => rfl); (case hr => first | (go_simp; done) | (go_simp; rfl)); intro gb1060 hg w1061 hbox hb; replace HO155 := mk_ (Kd.R_below (Kd.ur_ HO155.out) hb); have n1_ := mk_ (blk_below (u_ BK150.out) hb); have n2_ := mk_ (below_step (us_ HB.out) hb); have BK157 := mk_ (hbox); have GW157 := mk_ ((by rw [hg]; exact (below_size (us_ HB.out)) : w.heap.size ≤ gb1060)); have GE157 := ge_ ((by rw [hg]; exact (below_size (us_ HB.out)) : w.heap.size ≤ gb1060)); have NB150_157 := nq_ ((by rw [hg]; exact Nat.ne_of_lt (blk_lt (u_ BK150.out)) : gb980 ≠ gb1060)); have NB157_150 := nq_ ((by rw [hg]; exact Nat.ne_of_gt (blk_lt (u_ BK150.out)) : gb1060 ≠ gb980)); replace BK150 := n1_; replace HB := n2_; clear n1_ n2_; clear hb hbox hg; have hnb1062 := NB157_150.out; have hnc1062 := NB150_157.out; obtain ⟨_, _, _, _, _, _⟩ := cells3_ BK157.out; obtain ⟨Ao1063, co1063, eo1063⟩ := Kd.R_slice HO155.out; subst eo1063))
  go_ret
  exact ⟨by first | rfl | (simp [errW_none, errW_some] <;> rfl) | (simp [*, errW_none, errW_some] <;> rfl), us_ HB.out⟩
 all_goals
  go_wp2_with (first | ((with_reducible refine gate_dst (N := 1) rfl ?_); refine box_event ?hg (N := 1) ?hd (cs := #[.int .i64 a0_0, .int .i64 a0_1, .int .i64 a0_2, .int .i64 a0_3, .int .i64 a0_4, .int .i64 a0_5, .bool a0_6, .bool a0_7, .slice A0_8 l0_8.length c0_8]) (t := 37) ?hr ?_; (case hd => rfl); (case hg => rfl); (case hr => first | (go_simp; done) | (go_simp; rfl)); intro gb980 hg w981 hbox hb; have n0_ := mk_ (below_step (ub_ HB.out) hb); have BK150 := mk_ (hbox); have GW150 := mk_ ((by rw [hg]; exact (below_size (ub_ HB.out)) : w.heap.size ≤ gb980)); have GE150 := ge_ ((by rw [hg]; exact (below_size (ub_ HB.out)) : w.heap.size ≤ gb980)); replace HB := n0_; clear n0_; clear hb hbox hg; obtain ⟨_, _, _, _, _, _, _, _, _, _, _, _, _, _, _, _, _, _⟩ := cells9_ BK150.out) | ((with_reducible refine gate_callee (f := 19) rfl ?_); refine goesL_ (some 8) rfl rfl Try.func19 (by kernel_rfl) rfl #[.slice A0_8 l0_8.length c0_8] rfl (by (try simp only [lm_, lo_, ln_]); try rfl) ?_; (with_reducible refine (impl_NoteFrom.calls k _ _ l0_8 t151 t152 t153 true _ ?side1 ?side2 A2.out).mono ?_); (case side1 => repeat (first | exact (Kd.C_below HR0_8.out HB.out) | (with_reducible refine Kd.C_alloc ?_ _) | (with_reducible refine Kd.C_drewN ?_ _) | (with_reducible refine Kd.C_drew ?_))); (case side2 => exact HC0_8.out); rintro e w1020 ⟨v1021, rfl, ho1022, hb⟩; refine ⟨_, rfl, ?_⟩; have HO155 := mk_ (Kd.R_lower ho1022 (below_size (us_ HB.out))); replace BK150 := mk_ (blk_below (u_ BK150.out) hb); replace HB := mk_ (below_step (us_ HB.out) hb)) | ((with_reducible refine gate_dst (N := 3) rfl ?_); refine box_event ?hg (N := 3) ?hd (cs := #[.int .i64 0, .int .i64 0, .slice none 0 0]) (t := 44) ?hr ?_; (case hd => rfl); (case hg => rfl); (case hr => first | (go_simp; done) | (go_simp; rfl)); intro gb1060 hg w1061 hbox hb; replace HO155 := mk_ (Kd.R_below (Kd.ur_ HO155.out) hb); have n1_ := mk_ (blk_below (u_ BK150.out) hb); have n2_ := mk_ (below_step (us_ HB.out) hb); have BK157 := mk_ (hbox); have GW157 := mk_ ((by rw [hg]; exact (below_size (us_ HB.out)) : w.heap.size ≤ gb1060)); have GE157 := ge_ ((by rw [hg]; exact (below_size (us_ HB.out)) : w.heap.size ≤ gb1060)); have NB150_157 := nq_ ((by rw [hg]; exact Nat.ne_of_lt (blk_lt (u_ BK150.out)) : gb980 ≠ gb1060)); have NB157_150 := nq_ ((by rw [hg]; exact Nat.ne_of_gt (blk_lt (u_ BK150.out)) : gb1060 ≠ gb980)); replace BK150 := n1_; replace HB := n2_; clear n1_ n2_; clear hb hbox hg; have hnb1062 := NB157_150.out; have hnc1062 := NB150_157.out; obtain ⟨_, _, _, _, _, _⟩ := cells3_ BK157.out; obtain ⟨Ao1063, co1063, eo1063⟩ := Kd.R_slice HO155.out; subst eo1063; obtain ⟨_, _, _, _, _, _, _, _, _, _, _, _, _, _, _, _, _, _⟩ := cells9_ BK150.out))
  go_ret
  exact ⟨by first | rfl | (simp [errW_none, errW_some] <;> rfl) | (simp [*, errW_none, errW_some] <;> rfl), us_ HB.out⟩

/-! ### impl_noted: function 58 -/
def impl_noted.f (k : Nat) (a0 : Int) (a1_0 : Int) (a1_1 : Int) (a1_2 : Int) (a1_3 : Int) (a1_4 : Int) (a1_5 : Int) (a1_6 : Bool) (a1_7 : Bool) (l1_8 : List Int) (a2_0 : Int) (a2_1 : Int) (l2_2 : List Int) : Option (Int × Int × Int × Int × Int × Int × Bool × Bool × List Int) := (impl_NoteBytes.f k a2_0 a2_1 l2_2).bind fun t161 => (some (a0, a1_0, 1, 64, a1_4, 0, false, false, t161))
theorem impl_noted.mono : ∀ a0 a1 a2 a3 a4 a5 a6 a7 a8 a9 a10 a11 a12 k, LeO (impl_noted.f k a0 a1 a2 a3 a4 a5 a6 a7 a8 a9 a10 a11 a12) (impl_noted.f (k + 1) a0 a1 a2 a3 a4 a5 a6 a7 a8 a9 a10 a11 a12) := by
 intro a0 a1 a2 a3 a4 a5 a6 a7 a8 a9 a10 a11 a12 k
 unfold impl_noted.f
 repeat' first
   | (with_reducible exact impl_NoteBytes.mono _ _ _ _)
   | (with_reducible exact LeO.refl _)
   | (with_reducible exact LeO.none _)
   | (with_reducible refine LeO.ite ?_ ?_)
   | (with_reducible refine LeO.bind ?_ (fun _ => ?_))
   | exact impl_NoteBytes.mono _ _ _ _
   | exact LeO.none _
   | refine LeO.ite ?_ ?_
   | refine LeO.bind ?_ (fun _ => ?_)
def impl_noted.T1 : Bool × List (List Nat × List Nat) := (true, [([], []), ([], []), ([1], [1]), ([], []), ([3], [3]), ([], []), ([5], [5]), ([0, 2, 4, 6], [0, 2, 4, 6]), ([7, 6, 0, 1, 2, 3, 4, 5, 6, 7], [7])])
def impl_noted.B1 : List Nat := [0, 0, 2, 0, 8, 0, 32, 127, 255]
theorem impl_noted.tab1 : rtab .any (opsOf Try.f58 1) = impl_noted.T1 := by kernel_rfl
theorem impl_noted.bits1 : waitsOk impl_noted.T1.2 impl_noted.B1 = true := by kernel_rfl
set_option maxHeartbeats 8000000 in
set_option maxRecDepth 100000 in
theorem impl_noted.calls (k : Nat) (a0 : Int) (a1_0 : Int) (a1_1 : Int) (a1_2 : Int) (a1_3 : Int) (a1_4 : Int) (a1_5 : Int) (a1_6 : Bool) (a1_7 : Bool) (A1_8 : Option Addr) (c1_8 : Nat) (l1_8 : List Int) (a2_0 : Int) (a2_1 : Int) (A2_2 : Option Addr) (c2_2 : Nat) (l2_2 : List Int) (r1 : Int) (r2 : Int) (r3 : Int) (r4 : Int) (r5 : Int) (r6 : Int) (r7 : Bool) (r8 : Bool) (r9 : List Int) (w : World) (hr1_8 : Kd.C (Kd.int .u8) w A1_8 l1_8.length l1_8) (hc1_8 : l1_8.length ≤ c1_8) (hr2_2 : Kd.C (Kd.int .u8) w A2_2 l2_2.length l2_2) (hc2_2 : l2_2.length ≤ c2_2) (h : impl_noted.f k a0 a1_0 a1_1 a1_2 a1_3 a1_4 a1_5 a1_6 a1_7 l1_8 a2_0 a2_1 l2_2 = some (r1, r2, r3, r4, r5, r6, r7, r8, r9)) :
  Calls Try.prog 58 #[.int .i64 a0, .agg #[.int .i64 a1_0, .int .i64 a1_1, .int .i64 a1_2, .int .i64 a1_3, .int .i64 a1_4, .int .i64 a1_5, .bool a1_6, .bool a1_7, .slice A1_8 l1_8.length c1_8], .agg #[.int .i64 a2_0, .int .i64 a2_1, .slice A2_2 l2_2.length c2_2]] w fun e w' => ∃ v8_ : Value, e = .returned (.agg #[.int .i64 r1, .int .i64 r2, .int .i64 r3, .int .i64 r4, .int .i64 r5, .int .i64 r6, .bool r7, .bool r8, v8_]) ∧ Kd.R (Kd.int .u8) 5 w' w.heap.size (fun _ => True) v8_ r9 ∧ Below w.heap.size w w' := by
 have hu37 := Try.underlying37
 have hu44 := Try.underlying44
 have HR1_8 := mk_ hr1_8
 have HC1_8 := mk_ hc1_8
 clear hr1_8 hc1_8
 have HR2_2 := mk_ hr2_2
 have HC2_2 := mk_ hc2_2
 clear hr2_2 hc2_2
 have HB := mk_ (Below.refl w.heap.size w)
 have H := h
 unfold impl_noted.f at H
 clear h
 replace H := Option.bind_eq_some_iff.mp H
 obtain ⟨t161, A40, H⟩ := H
 replace H : (some (a0, a1_0, 1, 64, a1_4, 0, false, false, t161)) = some (r1, r2, r3, r4, r5, r6, r7, r8, r9) := H
 have A4 := mk_ A40
 clear A40
 simp only [Option.some.injEq, Prod.mk.injEq] at H
 obtain ⟨rfl, rfl, rfl, rfl, rfl, rfl, rfl, rfl, rfl⟩ := H
 go_enter Try.func58, Try.ntmps58
 try go_wp2_with (first | ((with_reducible refine gate_dst (N := 4) rfl ?_); refine box_event ?hg (N := 4) ?hd (cs := #[.int .i64 a1_0, .int .i64 a1_1, .int .i64 a1_2, .int .i64 a1_3, .int .i64 a1_4, .int .i64 a1_5, .bool a1_6, .bool a1_7, .slice A1_8 l1_8.length c1_8]) (t := 37) ?hr ?_; (case hd => rfl); (case hg => rfl); (case hr => first | (go_simp; done) | (go_simp; rfl)); intro gb158 hg w5 hbox hb; have n0_ := mk_ (below_step (ub_ HB.out) hb); have BK158 := mk_ (hbox); have GW158 := mk_ ((by rw [hg]; exact (below_size (ub_ HB.out)) : w.heap.size ≤ gb158)); have GE158 := ge_ ((by rw [hg]; exact (below_size (ub_ HB.out)) : w.heap.size ≤ gb158)); replace HB := n0_; clear n0_; clear hb hbox hg) | ((with_reducible refine gate_dst (N := 5) rfl ?_); refine box_event ?hg (N := 5) ?hd (cs := #[.int .i64 a2_0, .int .i64 a2_1, .slice A2_2 l2_2.length c2_2]) (t := 44) ?hr ?_; (case hd => rfl); (case hg => rfl); (case hr => first | (go_simp; done) | (go_simp; rfl)); intro gb159 hg w6 hbox hb; have n0_ := mk_ (blk_below (u_ BK158.out) hb); have n1_ := mk_ (below_step (us_ HB.out) hb); have BK159 := mk_ (hbox); have GW159 := mk_ ((by rw [hg]; exact (below_size (us_ HB.out)) : w.heap.size ≤ gb159)); have GE159 := ge_ ((by rw [hg]; exact (below_size (us_ HB.out)) : w.heap.size ≤ gb159)); have NB158_159 := nq_ ((by rw [hg]; exact Nat.ne_of_lt (blk_lt (u_ BK158.out)) : gb158 ≠ gb159)); have NB159_158 := nq_ ((by rw [hg]; exact Nat.ne_of_gt (blk_lt (u_ BK158.out)) : gb159 ≠ gb158)); replace BK158 := n0_; replace HB := n1_; clear n0_ n1_; clear hb hbox hg) | ((with_reducible refine gate_dst (N := 6) rfl ?_); refine box_event ?hg (N := 6) ?hd (cs := #[.int .i64 0, .int .i64 0, .int .i64 0, .int .i64 0, .int .i64 0, .int .i64 0, .bool false, .bool false, .slice none 0 0]) (t := 37) ?hr ?_; (case hd => rfl); (case hg => rfl); (case hr => first | (go_simp; done) | (go_simp; rfl)); intro gb160 hg w7 hbox hb; have n0_ := mk_ (blk_below (u_ BK158.out) hb); have n1_ := mk_ (blk_below (u_ BK159.out) hb); have n2_ := mk_ (below_step (us_ HB.out) hb); have BK160 := mk_ (hbox); have GW160 := mk_ ((by rw [hg]; exact (below_size (us_ HB.out)) : w.heap.size ≤ gb160)); have GE160 := ge_ ((by rw [hg]; exact (below_size (us_ HB.out)) : w.heap.size ≤ gb160)); have NB158_160 := nq_ ((by rw [hg]; exact Nat.ne_of_lt (blk_lt (u_ BK158.out)) : gb158 ≠ gb160)); have NB160_158 := nq_ ((by rw [hg]; exact Nat.ne_of_gt (blk_lt (u_ BK158.out)) : gb160 ≠ gb158)); have NB159_160 := nq_ ((by rw [hg]; exact Nat.ne_of_lt (blk_lt (u_ BK159.out)) : gb159 ≠ gb160)); have NB160_159 := nq_ ((by rw [hg]; exact Nat.ne_of_gt (blk_lt (u_ BK159.out)) : gb160 ≠ gb159)); replace BK158 := n0_; replace BK159 := n1_; replace HB := n2_; clear n0_ n1_ n2_; clear hb hbox hg))
 have n0_ := mk_ (blk_drew BK158.out)
 have n1_ := mk_ (blk_drew BK159.out)
 have n2_ := mk_ (blk_drew BK160.out)
 have n3_ := mk_ (below_drew1 HB.out)
 clear BK158
 clear BK159
 clear BK160
 clear HB
 have BK158 := n0_
 have BK159 := n1_
 have BK160 := n2_
 have HB := n3_
 clear n0_ n1_ n2_ n3_
 refine start_ (n := 9) (S := fun w' => w'.cell? ⟨gb158, 0, none⟩ = some (.int .i64 a1_0) ∧ w'.cell? ⟨gb158, 1, none⟩ = some (.int .i64 a1_1) ∧ w'.cell? ⟨gb158, 2, none⟩ = some (.int .i64 a1_2) ∧ w'.cell? ⟨gb158, 3, none⟩ = some (.int .i64 a1_3) ∧ w'.cell? ⟨gb158, 4, none⟩ = some (.int .i64 a1_4) ∧ w'.cell? ⟨gb158, 5, none⟩ = some (.int .i64 a1_5) ∧ w'.cell? ⟨gb158, 6, none⟩ = some (.bool a1_6) ∧ w'.cell? ⟨gb158, 7, none⟩ = some (.bool a1_7) ∧ w'.cell? ⟨gb158, 8, none⟩ = some (.slice A1_8 l1_8.length c1_8) ∧ w'.cell? ⟨gb159, 0, none⟩ = some (.int .i64 a2_0) ∧ w'.cell? ⟨gb159, 1, none⟩ = some (.int .i64 a2_1) ∧ w'.cell? ⟨gb159, 2, none⟩ = some (.slice A2_2 l2_2.length c2_2)) (ds := []) #[F_, F_, F_, F_, F_, F_, F_, F_, F_] (by kernel_rfl) rfl rfl ⟨(blk_cell BK158.out 0).trans rfl, (blk_cell BK158.out 1).trans rfl, (blk_cell BK158.out 2).trans rfl, (blk_cell BK158.out 3).trans rfl, (blk_cell BK158.out 4).trans rfl, (blk_cell BK158.out 5).trans rfl, (blk_cell BK158.out 6).trans rfl, (blk_cell BK158.out 7).trans rfl, (blk_cell BK158.out 8).trans rfl, (blk_cell BK159.out 0).trans rfl, (blk_cell BK159.out 1).trans rfl, (blk_cell BK159.out 2).trans rfl⟩ (fun hHeld => ?_); refine with_tabW impl_noted.tab1 impl_noted.bits1 (fun HT_ HW_ => ?_)
 generalize w7.drew = w8 at BK158 BK159 BK160 HB hHeld ⊢
 refine pure_ (i := 0) (N := some 7) (v := ?_) (a' := ?_) #[T_, F_, F_, F_, F_, F_, F_, F_, F_] rfl rfl (any_of HT_.out (by kernel_rfl)) (fun _ _ _ h => h) (Or.inl ⟨by rfl, ?_⟩) ?_ ?_
 rotate_left
 ·intro w'
  go_simp
  with_reducible rfl
 rotate_left
 ·simp only [Act.put, la_, lz_, ls_, i64_w, i32_w]
  rfl
 refine pure_ (i := 1) (N := some 8) (v := ?_) (a' := ?_) #[T_, T_, F_, F_, F_, F_, F_, F_, F_] rfl rfl (any_of HT_.out (by kernel_rfl)) (fun _ _ _ h => h) (Or.inl ⟨by rfl, ?_⟩) ?_ ?_
 rotate_left
 ·intro w'
  go_simp
  with_reducible rfl
 rotate_left
 ·simp only [Act.put, la_, lz_, ls_, i64_w, i32_w]
  rfl
 refine pure_ (i := 3) (N := some 10) (v := ?_) (a' := ?_) #[T_, T_, F_, T_, F_, F_, F_, F_, F_] rfl rfl (any_of HT_.out (by kernel_rfl)) (fun _ _ _ h => h) (Or.inl ⟨by rfl, ?_⟩) ?_ ?_
 rotate_left
 ·intro w'
  go_simp
  with_reducible rfl
 rotate_left
 ·simp only [Act.put, la_, lz_, ls_, i64_w, i32_w]
  rfl
 refine take_ (i := 2) (N := some 9) (v := ?_) (a' := ?_) #[T_, T_, T_, T_, F_, F_, F_, F_, F_] rfl rfl (take_ofW HT_.out HW_.out (by kernel_rfl)) (fun _ _ _ h => h) (Or.inl ⟨by rfl, ?_⟩) hHeld ?_ ?_
 rotate_left
 ·rintro w' ⟨s0, s1, s2, s3, s4, s5, s6, s7, s8, s9, s10, s11⟩
  go_simp
  with_reducible rfl
 rotate_left
 ·simp only [Act.put, la_, lz_, ls_, i64_w, i32_w]
  rfl
 refine take_ (i := 4) (N := some 11) (v := ?_) (a' := ?_) #[T_, T_, T_, T_, T_, F_, F_, F_, F_] rfl rfl (take_ofW HT_.out HW_.out (by kernel_rfl)) (fun _ _ _ h => h) (Or.inl ⟨by rfl, ?_⟩) hHeld ?_ ?_
 rotate_left
 ·rintro w' ⟨s0, s1, s2, s3, s4, s5, s6, s7, s8, s9, s10, s11⟩
  go_simp
  with_reducible rfl
 rotate_left
 ·simp only [Act.put, la_, lz_, ls_, i64_w, i32_w]
  rfl
 refine take_ (i := 5) (N := some 12) (v := ?_) (a' := ?_) #[T_, T_, T_, T_, T_, T_, F_, F_, F_] rfl rfl (take_ofW HT_.out HW_.out (by kernel_rfl)) (fun _ _ _ h => h) (Or.inl ⟨by rfl, ?_⟩) hHeld ?_ ?_
 rotate_left
 ·rintro w' ⟨s0, s1, s2, s3, s4, s5, s6, s7, s8, s9, s10, s11⟩
  go_simp
  with_reducible rfl
 rotate_left
 ·simp only [Act.put, la_, lz_, ls_, i64_w, i32_w]
  rfl
 refine one_ (i := 6) (N := some 13) #[T_, T_, T_, T_, T_, T_, T_, F_, F_] rfl rfl (one_of HT_.out (by kernel_rfl)) (by decide) (fun K hK => ?_)
 refine goes_ Try.func65 (by kernel_rfl) rfl #[.agg #[.int .i64 a2_0, .int .i64 a2_1, .slice A2_2 l2_2.length c2_2]] (by rfl) rfl rfl (by (try simp only [lm_, lo_, ln_]); try rfl) ?_
 with_reducible refine (impl_NoteBytes.calls k a2_0 a2_1 (fun k_ => k_ < w.heap.size) _ _ l2_2 t161 _ ?side1 A4.out).mono ?_
 (case side1 => exact Kd.V_mk HC2_2.out (Kd.F_below (Kd.C_F (Kd.heap_int .u8) HR2_2.out) (us_ HB.out)))
 rintro e w9 ⟨v162, rfl, ho0, hb⟩
 refine ⟨_, rfl, ?_⟩
 have n0_ := mk_ (Kd.R_lower (Kd.R_mono (ok' := fun k_ => True) ho0 (fun _ hk_ => trivial)) (below_size (us_ HB.out)))
 have n1_ := mk_ (blk_below (u_ BK158.out) hb)
 have n2_ := mk_ (blk_below (u_ BK159.out) hb)
 have n3_ := mk_ (blk_below (u_ BK160.out) hb)
 have n4_ := mk_ (below_step (us_ HB.out) hb)
 clear BK158
 clear BK159
 clear BK160
 clear HB
 have HO163 := n0_
 have BK158 := n1_
 have BK159 := n2_
 have BK160 := n3_
 have HB := n4_
 clear n0_ n1_ n2_ n3_ n4_
 (try clear hb)
 (try clear hb2)
 (try clear hk)
 (try clear hi)
 (try clear ho0)
 obtain ⟨Ao10, co10, eo10⟩ := Kd.R_slice HO163.out
 (first | subst eo10 | (injection eo10 with f1_ f2_ f3_; have f4_ := f1_.symm; have f5_ := f3_.symm; clear f1_ f2_ f3_; subst f4_; subst f5_))
 refine hK.out _ _ ⟨(blk_cell BK158.out 0).trans rfl, (blk_cell BK158.out 1).trans rfl, (blk_cell BK158.out 2).trans rfl, (blk_cell BK158.out 3).trans rfl, (blk_cell BK158.out 4).trans rfl, (blk_cell BK158.out 5).trans rfl, (blk_cell BK158.out 6).trans rfl, (blk_cell BK158.out 7).trans rfl, (blk_cell BK158.out 8).trans rfl, (blk_cell BK159.out 0).trans rfl, (blk_cell BK159.out 1).trans rfl, (blk_cell BK159.out 2).trans rfl⟩ (fun hHeld => ?_)
 clear hK K
 refine norm_ (a' := ?_) ?_ ?_
 rotate_left
 ·show Act.put _ (some 13) _ = _
  simp only [Act.put, la_, lz_, ls_, i64_w, i32_w]
  rfl
 refine pure_ (i := 7) (N := some 14) (v := ?_) (a' := ?_) #[T_, T_, T_, T_, T_, T_, T_, T_, F_] rfl rfl (any_of HT_.out (by kernel_rfl)) (fun _ _ _ h => h) (Or.inl ⟨by rfl, ?_⟩) ?_ ?_
 rotate_left
 ·intro w'
  go_simp
  with_reducible rfl
 rotate_left
 ·simp only [Act.put, la_, lz_, ls_, i64_w, i32_w]
  rfl
 refine one_ (i := 8) (N := none) #[T_, T_, T_, T_, T_, T_, T_, T_, T_] rfl rfl (one_of HT_.out (by kernel_rfl)) (by decide) (fun K hK => ?_)
 have hs11 : w9.cell? ⟨gb160, 0, none⟩ = some (.int .i64 0) := (blk_cell BK160.out 0).trans rfl
 have hfs11 := blk_frozen BK160.out 0
 have hns11_0 := NB158_160.out
 have hns11_1 := NB159_160.out
 have hms11_0 := NB160_158.out
 have hms11_1 := NB160_159.out
 have hs12 : w9.cell? ⟨gb160, 1, none⟩ = some (.int .i64 0) := (blk_cell BK160.out 1).trans rfl
 have hfs12 := blk_frozen BK160.out 1
 have hns12_0 := NB158_160.out
 have hns12_1 := NB159_160.out
 have hms12_0 := NB160_158.out
 have hms12_1 := NB160_159.out
 have hs13 : w9.cell? ⟨gb160, 2, none⟩ = some (.int .i64 0) := (blk_cell BK160.out 2).trans rfl
 have hfs13 := blk_frozen BK160.out 2
 have hns13_0 := NB158_160.out
 have hns13_1 := NB159_160.out
 have hms13_0 := NB160_158.out
 have hms13_1 := NB160_159.out
 have hs14 : w9.cell? ⟨gb160, 3, none⟩ = some (.int .i64 0) := (blk_cell BK160.out 3).trans rfl
 have hfs14 := blk_frozen BK160.out 3
 have hns14_0 := NB158_160.out
 have hns14_1 := NB159_160.out
 have hms14_0 := NB160_158.out
 have hms14_1 := NB160_159.out
 have hs15 : w9.cell? ⟨gb160, 4, none⟩ = some (.int .i64 0) := (blk_cell BK160.out 4).trans rfl
 have hfs15 := blk_frozen BK160.out 4
 have hns15_0 := NB158_160.out
 have hns15_1 := NB159_160.out
 have hms15_0 := NB160_158.out
 have hms15_1 := NB160_159.out
 have hs16 : w9.cell? ⟨gb160, 5, none⟩ = some (.int .i64 0) := (blk_cell BK160.out 5).trans rfl
 have hfs16 := blk_frozen BK160.out 5
 have hns16_0 := NB158_160.out
 have hns16_1 := NB159_160.out
 have hms16_0 := NB160_158.out
 have hms16_1 := NB160_159.out
 have hs17 : w9.cell? ⟨gb160, 6, none⟩ = some (.bool false) := (blk_cell BK160.out 6).trans rfl
 have hfs17 := blk_frozen BK160.out 6
 have hns17_0 := NB158_160.out
 have hns17_1 := NB159_160.out
 have hms17_0 := NB160_158.out
 have hms17_1 := NB160_159.out
 have hs18 : w9.cell? ⟨gb160, 7, none⟩ = some (.bool false) := (blk_cell BK160.out 7).trans rfl
 have hfs18 := blk_frozen BK160.out 7
 have hns18_0 := NB158_160.out
 have hns18_1 := NB159_160.out
 have hms18_0 := NB160_158.out
 have hms18_1 := NB160_159.out
 have hs19 : w9.cell? ⟨gb160, 8, none⟩ = some (.slice none 0 0) := (blk_cell BK160.out 8).trans rfl
 have hfs19 := blk_frozen BK160.out 8
 have hns19_0 := NB158_160.out
 have hns19_1 := NB159_160.out
 have hms19_0 := NB160_158.out
 have hms19_1 := NB160_159.out
 refine skip_ (w1 := ?_) (by rfl) rfl ?_ ?_
 rotate_left
 ·go_simp
  rfl
 refine hK.out _ _ ⟨((cell_far (p := ⟨gb160, _, none⟩) NB158_160.out _).trans (((cell_far (p := ⟨gb160, _, none⟩) NB158_160.out _).trans (((cell_far (p := ⟨gb160, _, none⟩) NB158_160.out _).trans (((cell_far (p := ⟨gb160, _, none⟩) NB158_160.out _).trans (((cell_far (p := ⟨gb160, _, none⟩) NB158_160.out _).trans (((cell_far (p := ⟨gb160, _, none⟩) NB158_160.out _).trans (((cell_far (p := ⟨gb160, _, none⟩) NB158_160.out _).trans (((cell_far (p := ⟨gb160, _, none⟩) NB158_160.out _).trans (((cell_far (p := ⟨gb160, _, none⟩) NB158_160.out _).trans (hHeld.1)))))))))))))))))), ((cell_far (p := ⟨gb160, _, none⟩) NB158_160.out _).trans (((cell_far (p := ⟨gb160, _, none⟩) NB158_160.out _).trans (((cell_far (p := ⟨gb160, _, none⟩) NB158_160.out _).trans (((cell_far (p := ⟨gb160, _, none⟩) NB158_160.out _).trans (((cell_far (p := ⟨gb160, _, none⟩) NB158_160.out _).trans (((cell_far (p := ⟨gb160, _, none⟩) NB158_160.out _).trans (((cell_far (p := ⟨gb160, _, none⟩) NB158_160.out _).trans (((cell_far (p := ⟨gb160, _, none⟩) NB158_160.out _).trans (((cell_far (p := ⟨gb160, _, none⟩) NB158_160.out _).trans (hHeld.2.1)))))))))))))))))), ((cell_far (p := ⟨gb160, _, none⟩) NB158_160.out _).trans (((cell_far (p := ⟨gb160, _, none⟩) NB158_160.out _).trans (((cell_far (p := ⟨gb160, _, none⟩) NB158_160.out _).trans (((cell_far (p := ⟨gb160, _, none⟩) NB158_160.out _).trans (((cell_far (p := ⟨gb160, _, none⟩) NB158_160.out _).trans (((cell_far (p := ⟨gb160, _, none⟩) NB158_160.out _).trans (((cell_far (p := ⟨gb160, _, none⟩) NB158_160.out _).trans (((cell_far (p := ⟨gb160, _, none⟩) NB158_160.out _).trans (((cell_far (p := ⟨gb160, _, none⟩) NB158_160.out _).trans (hHeld.2.2.1)))))))))))))))))), ((cell_far (p := ⟨gb160, _, none⟩) NB158_160.out _).trans (((cell_far (p := ⟨gb160, _, none⟩) NB158_160.out _).trans (((cell_far (p := ⟨gb160, _, none⟩) NB158_160.out _).trans (((cell_far (p := ⟨gb160, _, none⟩) NB158_160.out _).trans (((cell_far (p := ⟨gb160, _, none⟩) NB158_160.out _).trans (((cell_far (p := ⟨gb160, _, none⟩) NB158_160.out _).trans (((cell_far (p := ⟨gb160, _, none⟩) NB158_160.out _).trans (((cell_far (p := ⟨gb160, _, none⟩) NB158_160.out _).trans (((cell_far (p := ⟨gb160, _, none⟩) NB158_160.out _).trans (hHeld.2.2.2.1)))))))))))))))))), ((cell_far (p := ⟨gb160, _, none⟩) NB158_160.out _).trans (((cell_far (p := ⟨gb160, _, none⟩) NB158_160.out _).trans (((cell_far (p := ⟨gb160, _, none⟩) NB158_160.out _).trans (((cell_far (p := ⟨gb160, _, none⟩) NB158_160.out _).trans (((cell_far (p := ⟨gb160, _, none⟩) NB158_160.out _).trans (((cell_far (p := ⟨gb160, _, none⟩) NB158_160.out _).trans (((cell_far (p := ⟨gb160, _, none⟩) NB158_160.out _).trans (((cell_far (p := ⟨gb160, _, none⟩) NB158_160.out _).trans (((cell_far (p := ⟨gb160, _, none⟩) NB158_160.out _).trans (hHeld.2.2.2.2.1)))))))))))))))))), ((cell_far (p := ⟨gb160, _, none⟩) NB158_160.out _).trans (((cell_far (p := ⟨gb160, _, none⟩) NB158_160.out _).trans (((cell_far (p := ⟨gb160, _, none⟩) NB158_160.out _).trans (((cell_far (p := ⟨gb160, _, none⟩) NB158_160.out _).trans (((cell_far (p := ⟨gb160, _, none⟩) NB158_160.out _).trans (((cell_far (p := ⟨gb160, _, none⟩) NB158_160.out _).trans (((cell_far (p := ⟨gb160, _, none⟩) NB158_160.out _).trans (((cell_far (p := ⟨gb160, _, none⟩) NB158_160.out _).trans (((cell_far (p := ⟨gb160, _, none⟩) NB158_160.out _).trans (hHeld.2.2.2.2.2.1)))))))))))))))))), ((cell_far (p := ⟨gb160, _, none⟩) NB158_160.out _).trans (((cell_far (p := ⟨gb160, _, none⟩) NB158_160.out _).trans (((cell_far (p := ⟨gb160, _, none⟩) NB158_160.out _).trans (((cell_far (p := ⟨gb160, _, none⟩) NB158_160.out _).trans (((cell_far (p := ⟨gb160, _, none⟩) NB158_160.out _).trans (((cell_far (p := ⟨gb160, _, none⟩) NB158_160.out _).trans (((cell_far (p := ⟨gb160, _, none⟩) NB158_160.out _).trans (((cell_far (p := ⟨gb160, _, none⟩) NB158_160.out _).trans (((cell_far (p := ⟨gb160, _, none⟩) NB158_160.out _).trans (hHeld.2.2.2.2.2.2.1)))))))))))))))))), ((cell_far (p := ⟨gb160, _, none⟩) NB158_160.out _).trans (((cell_far (p := ⟨gb160, _, none⟩) NB158_160.out _).trans (((cell_far (p := ⟨gb160, _, none⟩) NB158_160.out _).trans (((cell_far (p := ⟨gb160, _, none⟩) NB158_160.out _).trans (((cell_far (p := ⟨gb160, _, none⟩) NB158_160.out _).trans (((cell_far (p := ⟨gb160, _, none⟩) NB158_160.out _).trans (((cell_far (p := ⟨gb160, _, none⟩) NB158_160.out _).trans (((cell_far (p := ⟨gb160, _, none⟩) NB158_160.out _).trans (((cell_far (p := ⟨gb160, _, none⟩) NB158_160.out _).trans (hHeld.2.2.2.2.2.2.2.1)))))))))))))))))), ((cell_far (p := ⟨gb160, _, none⟩) NB158_160.out _).trans (((cell_far (p := ⟨gb160, _, none⟩) NB158_160.out _).trans (((cell_far (p := ⟨gb160, _, none⟩) NB158_160.out _).trans (((cell_far (p := ⟨gb160, _, none⟩) NB158_160.out _).trans (((cell_far (p := ⟨gb160, _, none⟩) NB158_160.out _).trans (((cell_far (p := ⟨gb160, _, none⟩) NB158_160.out _).trans (((cell_far (p := ⟨gb160, _, none⟩) NB158_160.out _).trans (((cell_far (p := ⟨gb160, _, none⟩) NB158_160.out _).trans (((cell_far (p := ⟨gb160, _, none⟩) NB158_160.out _).trans (hHeld.2.2.2.2.2.2.2.2.1)))))))))))))))))), ((cell_far (p := ⟨gb160, _, none⟩) NB159_160.out _).trans (((cell_far (p := ⟨gb160, _, none⟩) NB159_160.out _).trans (((cell_far (p := ⟨gb160, _, none⟩) NB159_160.out _).trans (((cell_far (p := ⟨gb160, _, none⟩) NB159_160.out _).trans (((cell_far (p := ⟨gb160, _, none⟩) NB159_160.out _).trans (((cell_far (p := ⟨gb160, _, none⟩) NB159_160.out _).trans (((cell_far (p := ⟨gb160, _, none⟩) NB159_160.out _).trans (((cell_far (p := ⟨gb160, _, none⟩) NB159_160.out _).trans (((cell_far (p := ⟨gb160, _, none⟩) NB159_160.out _).trans (hHeld.2.2.2.2.2.2.2.2.2.1)))))))))))))))))), ((cell_far (p := ⟨gb160, _, none⟩) NB159_160.out _).trans (((cell_far (p := ⟨gb160, _, none⟩) NB159_160.out _).trans (((cell_far (p := ⟨gb160, _, none⟩) NB159_160.out _).trans (((cell_far (p := ⟨gb160, _, none⟩) NB159_160.out _).trans (((cell_far (p := ⟨gb160, _, none⟩) NB159_160.out _).trans (((cell_far (p := ⟨gb160, _, none⟩) NB159_160.out _).trans (((cell_far (p := ⟨gb160, _, none⟩) NB159_160.out _).trans (((cell_far (p := ⟨gb160, _, none⟩) NB159_160.out _).trans (((cell_far (p := ⟨gb160, _, none⟩) NB159_160.out _).trans (hHeld.2.2.2.2.2.2.2.2.2.2.1)))))))))))))))))), ((cell_far (p := ⟨gb160, _, none⟩) NB159_160.out _).trans (((cell_far (p := ⟨gb160, _, none⟩) NB159_160.out _).trans (((cell_far (p := ⟨gb160, _, none⟩) NB159_160.out _).trans (((cell_far (p := ⟨gb160, _, none⟩) NB159_160.out _).trans (((cell_far (p := ⟨gb160, _, none⟩) NB159_160.out _).trans (((cell_far (p := ⟨gb160, _, none⟩) NB159_160.out _).trans (((cell_far (p := ⟨gb160, _, none⟩) NB159_160.out _).trans (((cell_far (p := ⟨gb160, _, none⟩) NB159_160.out _).trans (((cell_far (p := ⟨gb160, _, none⟩) NB159_160.out _).trans (hHeld.2.2.2.2.2.2.2.2.2.2.2))))))))))))))))))⟩ (fun hHeld => ?_)
 clear hK K
 refine done_ (done_of HT_.out (by kernel_rfl)) ?_
 try go_wp2
 refine bodyPost_ret (results_cell_row rfl _ _ gb160 37 #[.int .i64 a0, .int .i64 a1_0, .int .i64 1, .int .i64 64, .int .i64 a1_4, .int .i64 0, .bool false, .bool false, .slice Ao10 t161.length co10] (0, 0) _ rfl (by (with_reducible repeat (first | refine bn_ ?_ _ | refine bw_ ?_ | refine ba_ ?_ _)); with_reducible apply blk_put9; (with_reducible repeat (first | refine bn_ ?_ _ | refine bw_ ?_ | refine ba_ ?_ _)); exact BK160.out) Try.underlying37 rfl (by kernel_rfl)) rfl ?_
 exact ⟨_, by first | rfl | (simp [errW_none, errW_some] <;> rfl) | (simp [*, errW_none, errW_some] <;> rfl), by (with_reducible repeat (first | apply Kd.R_alloc | apply Kd.R_drewN | apply Kd.R_drew)); exact Kd.R_mono (Kd.R_far9 (g := gb160) (Kd.R_types HO163.out BK160.out (by decide)) (fun _ hk => hk.2) _ _ _ _ _ _ _ _ _) (fun _ hk => trivial), us_ HB.out⟩

/-! ### impl_bit: function 107 -/
def impl_bit.f (a0 : Bool) (a1 : Int) : Option (Int) := if a0 = true then (some a1) else (some 0)
set_option maxHeartbeats 8000000 in
set_option maxRecDepth 100000 in
theorem impl_bit.calls (a0 : Bool) (a1 : Int) (r : Int) (w : World) (h : impl_bit.f a0 a1 = some r) :
  Calls Try.prog 107 #[.bool a0, .int .i64 a1] w fun e w' => e = .returned (.int .i64 r) ∧ Drawn0 w w' := by
 have H : (if a0 = true then (some a1) else (some 0)) = some r := h
 clear h
 by_cases c3 : a0 = true
 focus
  subst c3
  have H1 : (some a1) = some r := by rw [if_pos rfl] at H; exact H
  clear H
  have H := H1
  clear H1
  obtain rfl := Option.some.inj H
 rotate_left
 focus
  replace c3 := Bool.eq_false_iff.mpr c3
  subst c3
  have H1 : (some 0) = some r := by rw [if_neg (show ¬ (false = true) by decide)] at H; exact H
  clear H
  have H := H1
  clear H1
  obtain rfl := Option.some.inj H
 rotate_left
 all_goals
  go_enter Try.func107, Try.ntmps107
  go_wp2
  go_ret
  exact ⟨by first | rfl | (simp; done) | (simp [*]; done), by repeat (first | exact Drawn0.refl _ | apply Drawn0.step)⟩

-- slices_Chunk_byte_byte_1: see the function that ranges over it

-- slices_Chunk_byte_byte: see the function that ranges over it

/-! ### impl_added: function 127 -/
def impl_added.l0 : Nat → Int → List Int → Int → Int → Option (Int)
 | 0, _, _, _, _ => none
 | k + 1, x3, x6, x7, x8 => if x8 < x7 then (if 0 ≤ x8 then (if x8 < (x6.length : Int) then (if (wrap64 (x3 + (rd x6 x8))) > 65535 then (impl_added.l0 k (wrap64 ((wrap64 (x3 + (rd x6 x8))) - 65535)) x6 x7 (wrap64 (x8 + 1))) else (impl_added.l0 k (wrap64 (x3 + (rd x6 x8))) x6 x7 (wrap64 (x8 + 1)))) else (none)) else (none)) else (some x3)
def impl_added.f (k : Nat) (l0 : List Int) : Option (Int) := impl_added.l0 k 0 l0 (l0.length : Int) 0
theorem impl_added.mono_l : ∀ k, (∀ y0 y1 y2 y3, LeO (impl_added.l0 k y0 y1 y2 y3) (impl_added.l0 (k + 1) y0 y1 y2 y3))
 | 0 => fun _ _ _ _ r h => by simp [impl_added.l0] at h
 | k + 1 => by
  have ih0 := impl_added.mono_l k
  ·intro y0 y1 y2 y3
   unfold impl_added.l0
   repeat' first
   | (with_reducible exact ih0 _ _ _ _)
   | (with_reducible exact LeO.refl _)
   | (with_reducible exact LeO.none _)
   | (with_reducible refine LeO.ite ?_ ?_)
   | (with_reducible refine LeO.bind ?_ (fun _ => ?_))
   | exact ih0 _ _ _ _
   | exact LeO.none _
   | refine LeO.ite ?_ ?_
   | refine LeO.bind ?_ (fun _ => ?_)
theorem impl_added.mono : ∀ a0 k, LeO (impl_added.f k a0) (impl_added.f (k + 1) a0) := by
 intro a0 k
 have ih0 := impl_added.mono_l k
 unfold impl_added.f
 repeat' first
   | (with_reducible exact ih0 _ _ _ _)
   | (with_reducible exact LeO.refl _)
   | (with_reducible exact LeO.none _)
   | (with_reducible refine LeO.ite ?_ ?_)
   | (with_reducible refine LeO.bind ?_ (fun _ => ?_))
   | exact ih0 _ _ _ _
   | exact LeO.none _
   | refine LeO.ite ?_ ?_
   | refine LeO.bind ?_ (fun _ => ?_)
set_option maxHeartbeats 8000000 in
set_option maxRecDepth 100000 in
theorem impl_added.calls (k : Nat) (A0 : Option Addr) (c0 : Nat) (l0 : List Int) (r : Int) (w : World) (hr0 : Kd.C (Kd.int .i64) w A0 l0.length l0) (hc0 : l0.length ≤ c0) (h : impl_added.f k l0 = some r) :
  Calls Try.prog 127 #[.slice A0 l0.length c0] w fun e w' => e = .returned (.int .i64 r) ∧ Drawn0 w w' := by
 have HR0 := mk_ hr0
 have HC0 := mk_ hc0
 clear hr0 hc0
 have H : (impl_added.l0 k 0 l0 (l0.length : Int) 0) = some r := h
 clear h
 have H' := mk_ H
 clear H
 go_enter Try.func127, Try.ntmps127
 go_wp2
 go_loopg [3, 8] k (fun kq v3 v8 w' => ∃ (x3_1 : Int) (x8_1 : Int), v3 = .int .i64 x3_1 ∧ v8 = .int .i64 x8_1 ∧ Aside0 (impl_added.l0 kq x3_1 l0 (l0.length : Int) x8_1 = some r) ∧ Aside0 (kq ≤ k) ∧ Drawn0 w w')
 case atStart => exact ⟨(0), (0), (by first | rfl | (simp; done) | (simp [*]; done)), (by first | rfl | (simp; done) | (simp [*]; done)), H', ⟨Nat.le_refl _⟩, by repeat (first | exact Drawn0.refl _ | apply Drawn0.step)⟩
 case round =>
  clear H'
  try clear c1
  obtain ⟨x3_1, x8_1, rfl, rfl, HA, HK1, ⟨m1, rfl⟩⟩ := hrel
  cases gk with
  | zero => exact absurd HA.out (by simp [impl_added.l0])
  | succ k1 =>
   have H := HA.out
   clear HA
   simp only [impl_added.l0] at H
   by_cases c2 : x8_1 < (l0.length : Int)
   rotate_left
   ·rw [if_neg c2] at H
    have c2b0 : decide (x8_1 < (l0.length : Int)) = false := decide_eq_false c2
    clear c2
    obtain rfl := Option.some.inj H
    go_wp2
    go_ret
    exact ⟨by first | rfl | (simp; done) | (simp [*]; done), by repeat (first | exact Drawn0.refl _ | apply Drawn0.step)⟩
   rw [if_pos c2] at H
   have c2b0 : decide (x8_1 < (l0.length : Int)) = true := decide_eq_true c2
   clear c2
   by_cases c3 : 0 ≤ x8_1
   rotate_left
   ·rw [if_neg c3] at H
    exact absurd H (by simp)
   rw [if_pos c3] at H
   have c3b0 : decide (0 ≤ x8_1) = true := decide_eq_true c3
   clear c3
   by_cases c4 : x8_1 < (l0.length : Int)
   rotate_left
   ·rw [if_neg c4] at H
    exact absurd H (by simp)
   rw [if_pos c4] at H
   have c4b0 : decide (x8_1 < (l0.length : Int)) = true := decide_eq_true c4
   clear c4
   by_cases c5 : (wrap64 (x3_1 + (rd l0 x8_1))) > 65535
   ·rw [if_pos c5] at H
    have c5b0 : decide (65535 < (wrap64 (x3_1 + (rd l0 x8_1)))) = true := decide_eq_true c5
    clear c5
    have H' := mk_ H
    clear H
    have p164 : 0 ≤ (x8_1 : Int) := of_decide_eq_true (by first | (with_reducible assumption) | assumption)
    have q164 : x8_1 < (l0.length : Int) := of_decide_eq_true (by first | (with_reducible assumption) | assumption)
    obtain ⟨ad164, e164, hx164_0⟩ := Kd.at_int HR0.out x8_1 p164 q164
    cases e164
    replace p164 := eq_true p164
    replace q164 := eq_true q164
    go_wp2
    go_roundg k1
    case measure => have := HK1.out; omega
    case rel => exact ⟨(wrap64 ((wrap64 (x3_1 + (rd l0 x8_1))) - 65535)), (wrap64 (x8_1 + 1)), (by first | rfl | (simp; done) | (simp [*]; done)), (by first | rfl | (simp; done) | (simp [*]; done)), H', ⟨by have := HK1.out; omega⟩, by repeat (first | exact Drawn0.refl _ | apply Drawn0.step)⟩
   rw [if_neg c5] at H
   have c5b0 : decide (65535 < (wrap64 (x3_1 + (rd l0 x8_1)))) = false := decide_eq_false c5
   clear c5
   have H' := mk_ H
   clear H
   have p164 : 0 ≤ (x8_1 : Int) := of_decide_eq_true (by first | (with_reducible assumption) | assumption)
   have q164 : x8_1 < (l0.length : Int) := of_decide_eq_true (by first | (with_reducible assumption) | assumption)
   obtain ⟨ad164, e164, hx164_0⟩ := Kd.at_int HR0.out x8_1 p164 q164
   cases e164
   replace p164 := eq_true p164
   replace q164 := eq_true q164
   go_wp2
   go_roundg k1
   case measure => have := HK1.out; omega
   case rel => exact ⟨(wrap64 (x3_1 + (rd l0 x8_1))), (wrap64 (x8_1 + 1)), (by first | rfl | (simp; done) | (simp [*]; done)), (by first | rfl | (simp; done) | (simp [*]; done)), H', ⟨by have := HK1.out; omega⟩, by repeat (first | exact Drawn0.refl _ | apply Drawn0.step)⟩

/-! ### impl_sumOf: function 108 -/
namespace SumOf_
open Go.Shelf
attribute [local go_sem] Oper.semAt_some
/-- The places of a row. -/
abbrev so_Pl (L : Nat) := { i : Nat // i < L }
/-- The cut of at most two from a place on. -/
def so_cutAt (ad : Addr) (L : Nat) (x : so_Pl L) : Value := .slice (some (ad.add x.1)) (min 2 (L - x.1)) (min 2 (L - x.1))
/-- The first k even places. -/
def so_evens (L : Nat) (h : 0 < L) (k : Nat) : List (so_Pl L) := (List.range k).map fun j => if h2 : 2 * j < L then ⟨2 * j, h2⟩ else ⟨0, h⟩
theorem so_evens_succ (L : Nat) (h : 0 < L) (k : Nat) (hk : 2 * k < L) : so_evens L h (k + 1) = so_evens L h k ++ [⟨2 * k, hk⟩] := by simp [so_evens, List.range_succ, hk]
theorem so_evens_length (L : Nat) (h : 0 < L) (k : Nat) : (so_evens L h k).length = k := by simp [so_evens]
/-- What a round keeps: the iterator's two cells, and whatever lay below. -/
def so_Kq (Bs Bn n₀ : Nat) (A B : World) : Prop := (∀ v, A.cell? ⟨Bs, 0, none⟩ = some v → B.cell? ⟨Bs, 0, none⟩ = some v) ∧ (∀ v, A.cell? ⟨Bn, 0, none⟩ = some v → B.cell? ⟨Bn, 0, none⟩ = some v) ∧ Below n₀ A B

theorem so_cut_l (ad : Addr) (L c0 k : Nat) (hk : k < L) (hc : L ≤ c0) (W' : World) : (Instr.slice 22 (.slice (some ad) L c0) (some (.int .i64 (k : Nat))) none none).run Try.prog W' = .ok (.slice (some (ad.add k)) (L - k) (c0 - k)) W' := by
  obtain ⟨i0, hi, _, hsz, _⟩ := info_parts info5
  have ht := Try.underlying22
  have hel : Try.prog.elem 22 = 5 := by simp [Program.elem, ht]
  have hu : Try.prog.underlying 22 = some (.slice (Try.prog.elem 22)) := by rw [hel]; exact ht
  rw [run_slice_l W' 22 (some ad) L c0 hu .i64 (k : Int) (by omega) (by omega), hel]
  have h1 : ¬ c0 = k := by omega
  simp [sizeOf, typeInfo, hi, hsz, sliced, Result.andThen, h1]
theorem so_cut_lhm (ad : Addr) (L c0 k m : Nat) (hk : k < L) (hm : 0 < m) (hc : k + m ≤ L) (hcc : L ≤ c0) (W' : World) : (Instr.slice 22 (.slice (some ad) L c0) (some (.int .i64 (k : Nat))) (some (.int .i64 ((k + m : Nat) : Int))) (some (.int .i64 ((k + m : Nat) : Int)))).run Try.prog W' = .ok (.slice (some (ad.add k)) m m) W' := by
  obtain ⟨i0, hi, _, hsz, _⟩ := info_parts info5
  have ht := Try.underlying22
  have hel : Try.prog.elem 22 = 5 := by simp [Program.elem, ht]
  have hu : Try.prog.underlying 22 = some (.slice (Try.prog.elem 22)) := by rw [hel]; exact ht
  rw [run_slice_lhm W' 22 (some ad) L c0 hu .i64 .i64 .i64 (k : Int) ((k + m : Nat) : Int) ((k + m : Nat) : Int) (by omega) (by omega) (by omega) (by omega), hel]
  have h1 : ¬ k + m = k := by omega
  simp only [sizeOf, typeInfo, sliced]
  simp [hi, hsz, Result.andThen]
  omega
set_option maxRecDepth 100000 in
set_option maxHeartbeats 4000000 in
theorem so_chunk1_in (F : Fence) (n : Nat) (hF : F.fn 136) (hro : F.round = none) (hn : 1 ≤ n) (l Bs Bn n₀ : Nat) (ad : Addr) (L c0 : Nat) (hL : 0 < L) (hreach : L ≤ 140737488355328) (hcap : L ≤ c0) (J Jx : List (so_Pl L) → World → Prop) (hJd : ∀ s W, J s W → J s W.drew)
    (hY : ∀ pre x W, J pre W → pre.length < L → YieldAt F (n - 1) Try.prog l #[so_cutAt ad L x] W fun e W' =>
      (e = .returned (.bool true) ∧ J (pre ++ [x]) W' ∧ so_Kq Bs Bn n₀ W W') ∨ (e = .returned (.bool false) ∧ Jx (pre ++ [x]) W'))
    (W : World) (hBs : W.cell? ⟨Bs, 0, none⟩ = some (.slice (some ad) L c0)) (hBn : W.cell? ⟨Bn, 0, none⟩ = some (.int .i64 2)) (h0 : J [] W) :
    CallsIn F n Try.prog 136 #[.func (.yield l) #[] #[], .pointer (some ⟨Bs, 0, none⟩), .pointer (some ⟨Bn, 0, none⟩)] W fun e W' => (∃ v, e = .returned v) ∧
      ((∃ ys, ys = so_evens L hL ((L + 1) / 2) ∧ J ys W') ∨ (∃ pre, True ∧ Jx pre W')) := by
  refine callsIn_of_wp Try.func136 rfl hF ?_ hro
  simp only [Try.ntmps136, List.size_toArray, List.length_cons, List.length_nil, Nat.reduceAdd, Nat.reduceSub, Array.replicate_succ, Array.replicate_zero, List.push_toArray, List.append_toArray, List.nil_append, List.cons_append]
  gi_wp2
  gi_loopw [4] (fun i wr => ∃ k : Nat, 2 * k ≤ L + 1 ∧ i = .int .i64 (2 * k : Nat) ∧ J (so_evens L hL k) wr ∧ so_Kq Bs Bn n₀ W wr)
    (fun i _ => L + 1 - (intOf i).toNat)
  case atStart => exact ⟨0, Nat.zero_le _, rfl, h0, fun v h => h, fun v h => h, Below.refl _ _⟩
  case round =>
    obtain ⟨k, hk, rfl, hJs, hk1, hk2, hk3⟩ := hrel
    have c1 := hk1 _ hBs
    have c2 := hk2 _ hBn
    by_cases hlt : 2 * k < L
    · obtain ⟨fn, tmps, assign, body, hy, hR⟩ := hY _ ⟨2 * k, hlt⟩ wr hJs (by rw [so_evens_length]; omega)
      have hs1 := so_cut_l ad L c0 (2 * k) hlt hcap
      obtain ⟨m, hm⟩ : ∃ m, m = min 2 (L - 2 * k) := ⟨_, rfl⟩
      have hmi : (if ((L - 2 * k : Nat) : Int) < 2 then ((L - 2 * k : Nat) : Int) else 2) = (m : Int) := by split <;> omega
      have hs2 := so_cut_lhm ad L c0 (2 * k) m hlt (by omega) (by omega) hcap
      have hsum : IntKind.i64.wrap (((2 * k : Nat) : Int) + (m : Int)) = ((2 * k + m : Nat) : Int) := by rw [i64_w]; unfold wrap64; omega
      have hsum2 : wrap64 (((2 * k : Nat) : Int) + (m : Int)) = ((2 * k + m : Nat) : Int) := by unfold wrap64; omega
      have hnext : wrap64 (((2 * k : Nat) : Int) + 2) = ((2 * (k + 1) : Nat) : Int) := by unfold wrap64; omega
      obtain ⟨fn, tmps, assign, body, hy, hR⟩ := hY _ ⟨2 * k, hlt⟩ wr.drew (hJd _ _ hJs) (by rw [so_evens_length]; omega)
      simp only [so_cutAt] at hy
      have c1' : wr.drew.cell? ⟨Bs, 0, none⟩ = some (.slice (some ad) L c0) := c1
      have c2' : wr.drew.cell? ⟨Bn, 0, none⟩ = some (.int .i64 2) := c2
      generalize hkk : 2 * k = kk at *
      gi_wp2
      gi_region
      all_goals (simp only [← hm])
      all_goals gi_wp2
      all_goals
        refine hR.mono ?_
        rintro e W3 (⟨rfl, hJ3, hk4, hk5, hk6⟩ | ⟨rfl, hJx3⟩)
        · have d1 := hk4 _ c1'
          have d2 := hk5 _ c2'
          gi_wp2
          subst hkk
          go_roundw
          case rel => exact ⟨k + 1, by omega, by first | rfl | (simp; omega) | (go_num), by rw [so_evens_succ L hL k hlt]; exact hJ3, fun v h => by rw [hBs] at h; rw [← h]; exact d1, fun v h => by rw [hBn] at h; rw [← h]; exact d2, (hk3.drew).trans hk6⟩
          case measure => simp [intOf]; omega
        · gi_wp2
          refine bodyPost_ret (results_none rfl _ _ _) rfl ?_
          exact ⟨⟨_, rfl⟩, .inr ⟨_, trivial, hJx3⟩⟩
    · obtain rfl : k = (L + 1) / 2 := by omega
      gi_wp2
      go_end0
      exact ⟨⟨_, rfl⟩, .inl ⟨_, rfl, hJs⟩⟩
set_option maxRecDepth 100000 in
set_option maxHeartbeats 2000000 in
theorem so_chunk0_in (F : Fence) (n : Nat) (hF : F.fn 136) (hro : F.round = none) (l Bs Bn : Nat) (A0 : Option Addr) (c0 : Nat) {α : Type} (J : List α → World → Prop)
    (W : World) (hBs : W.cell? ⟨Bs, 0, none⟩ = some (.slice A0 0 c0)) (hBn : W.cell? ⟨Bn, 0, none⟩ = some (.int .i64 2)) (h0 : J [] W) :
    CallsIn F n Try.prog 136 #[.func (.yield l) #[] #[], .pointer (some ⟨Bs, 0, none⟩), .pointer (some ⟨Bn, 0, none⟩)] W fun e W' => (∃ v, e = .returned v) ∧ J [] W' := by
  refine callsIn_of_wp Try.func136 rfl hF ?_ hro
  simp only [Try.ntmps136, List.size_toArray, List.length_cons, List.length_nil, Nat.reduceAdd, Nat.reduceSub, Array.replicate_succ, Array.replicate_zero, List.push_toArray, List.append_toArray, List.nil_append, List.cons_append]
  gi_wp2
  gi_loopw [4] (fun i wr => i = .int .i64 0 ∧ J [] wr ∧ wr = W) (fun _ _ => 0)
  case atStart => exact ⟨rfl, h0, rfl⟩
  case round =>
    obtain ⟨rfl, hJs, rfl⟩ := hrel
    gi_wp2
    go_end0
    exact ⟨⟨_, rfl⟩, hJs⟩
set_option maxHeartbeats 1000000 in
theorem so_chunk_in (F : Fence) (n : Nat) (hF : F.fn 126) (hro : F.round = none) (A0 : Option Addr) (L c0 : Nat) (w : World) :
    CallsIn F n Try.prog 126 #[.slice A0 L c0, .int .i64 2] w fun e w' => e = .returned (.func (.func 136) #[] #[.pointer (some ⟨w.heap.size, 0, none⟩), .pointer (some ⟨w.heap.size + 1, 0, none⟩)]) ∧ w' = (w.alloc (.cells #[.slice A0 L c0] 22)).alloc (.cells #[.int .i64 2] 3) := by
  have hmf : ∀ (fn : Fn) (first cap : Array Value) (w : World), (Instr.makeFunc fn first cap).run Try.prog w = .ok (.func fn first cap) w := fun _ _ _ _ => rfl
  have hc : ((w.alloc (.cells #[.slice A0 L c0] 22)).alloc (.cells #[.int .i64 2] 3)).cell? ⟨w.heap.size + 1, 0, none⟩ = some (.int .i64 2) := by
    have := (Boxed.new (w.alloc (.cells #[.slice A0 L c0] 22)) 3 (.int .i64 2)).cell
    rwa [World.size_alloc] at this
  refine callsIn_of_wp Try.func126 rfl hF ?_ hro
  simp only [Try.ntmps126, List.size_toArray, List.length_cons, List.length_nil, Nat.reduceAdd, Nat.reduceSub, Array.replicate_succ, Array.replicate_zero, List.push_toArray, List.append_toArray, List.nil_append, List.cons_append]
  gi_wp2
  go_ret
  exact ⟨rfl, rfl⟩
theorem so_Kq_t {Bs Bn n₀ : Nat} {A B C : World} (h : so_Kq Bs Bn n₀ A B) (k : so_Kq Bs Bn n₀ B C) : so_Kq Bs Bn n₀ A C := ⟨fun v x => k.1 v (h.1 v x), fun v x => k.2.1 v (h.2.1 v x), h.2.2.trans k.2.2⟩
theorem so_Kq_b {Bs Bn n₀ B : Nat} (hB : n₀ ≤ B) (W : World) (l : Nat) (o o' : Obj) (hl : B ≤ l) (h1 : W.heap[l]? = some o) (h2 : o.isCells = false) (h3 : o.isWalk = false) : so_Kq Bs Bn n₀ W (W.putObj l o') :=
  ⟨fun v h => cell_kept h (grownBy_putObj' W l o') (fun r e => by cases e; exact ⟨o, h1, h2⟩), fun v h => cell_kept h (grownBy_putObj' W l o') (fun r e => by cases e; exact ⟨o, h1, h2⟩), by
    have := belowK_b (w := W) (n₀ := n₀)
    exact ⟨rfl, rfl, rfl, by simp, fun i hi => World.putObj_heap_other (by omega)⟩⟩
theorem so_chunk_stops (F : Fence) (n : Nat) (hF : F.fn 136) (hro : F.round = none) (hn : 1 ≤ n) (Bs Bn n₀ : Nat) (ad : Addr) (L c0 : Nat) (hL : 0 < L) (hreach : L ≤ 140737488355328) (hcap : L ≤ c0) (w : World) (hs : Bs < w.heap.size) (hs' : Bn < w.heap.size)
    (h1 : w.cell? ⟨Bs, 0, none⟩ = some (.slice (some ad) L c0)) (h2 : w.cell? ⟨Bn, 0, none⟩ = some (.int .i64 2)) :
    SeqStopsK F n Try.prog 136 #[.pointer (some ⟨Bs, 0, none⟩), .pointer (some ⟨Bn, 0, none⟩)] (fun x : so_Pl L => #[so_cutAt ad L x]) (so_Kq Bs Bn n₀) (fun ys => ys = so_evens L hL ((L + 1) / 2)) (fun _ => True) L w := fun l J Jx W hW hJ _ hY h0 =>
  so_chunk1_in F n hF hro hn l Bs Bn n₀ ad L c0 hL hreach hcap J Jx (fun s A hA => hJ s A A.drew none hA ⟨rfl, rfl, rfl, Nat.le_refl _, fun _ _ _ => rfl⟩ (fun r e => by cases e)) hY W ((hW.cell (p := ⟨Bs, 0, none⟩) hs).trans h1) ((hW.cell (p := ⟨Bn, 0, none⟩) hs').trans h2) h0
/-- Two bytes, or the last so_one, put side by side. -/
def so_nAt (l : List Int) (i : Nat) : Int := if i + 1 < l.length then Go.bits .or .i64 (wrap64 (wrap64 (rd l (i : Int)) * 256)) (wrap64 (rd l ((i + 1 : Nat) : Int))) else wrap64 (wrap64 (rd l (i : Int)) * 256)
def so_one (a b : Int) : Int := if wrap64 (a + b) > 65535 then wrap64 (wrap64 (a + b) - 65535) else wrap64 (a + b)
def so_addW (s n : Int) : Int := so_one (so_one 0 s) n
theorem so_added2 (k : Nat) (s n : Int) : impl_added.f (k + 3) [s, n] = some (so_addW s n) := by
  have w1 : wrap64 (0 + 1) = 1 := by unfold wrap64; omega
  have w2 : wrap64 (1 + 1) = 2 := by unfold wrap64; omega
  have r0 : rd [s, n] 0 = s := rfl
  have r1 : rd [s, n] 1 = n := rfl
  simp only [impl_added.f]
  rw [impl_added.l0]
  simp only [List.length_cons, List.length_nil, r0, w1]
  rw [if_pos (by decide), if_pos (by decide), if_pos (by decide)]
  have step : ∀ a : Int, impl_added.l0 (k + 2) a [s, n] (((0 + 1 + 1 : Nat) : Int)) 1 = some (so_one a n) := by
    intro a
    rw [impl_added.l0]
    simp only [List.length_cons, List.length_nil, r1, w2]
    rw [if_pos (by decide), if_pos (by decide), if_pos (by decide)]
    unfold so_one
    split
    · rw [impl_added.l0, if_neg (by decide)]
    · rw [impl_added.l0, if_neg (by decide)]
  unfold so_addW
  rw [step, step]
  split
  · rename_i h; rw [show so_one 0 s = wrap64 (wrap64 (0 + s) - 65535) by unfold so_one; rw [if_pos h]]
  · rename_i h; rw [show so_one 0 s = wrap64 (0 + s) by unfold so_one; rw [if_neg h]]
def so_sumW (l : List Int) (pre : List (so_Pl l.length)) : Int := pre.foldl (fun s x => so_addW s (so_nAt l x.1)) 0
theorem so_sumW_snoc (l : List Int) (pre : List (so_Pl l.length)) (x : so_Pl l.length) : so_sumW l (pre ++ [x]) = so_addW (so_sumW l pre) (so_nAt l x.1) := by simp [so_sumW]
theorem so_addedAt (W : World) (s n : Int) : Calls Try.prog 127 #[.slice (some ⟨W.heap.size, 0, none⟩) 2 2] (W.alloc (.cells #[.int .i64 s, .int .i64 n] 3)) fun e w' => e = .returned (.int .i64 (so_addW s n)) ∧ Drawn0 (W.alloc (.cells #[.int .i64 s, .int .i64 n] 3)) w' := by
  have hb := blk_new W (.cells #[.int .i64 s, .int .i64 n] 3 (0, 0))
  have hC : Kd.C (Kd.int .i64) (W.alloc (.cells #[.int .i64 s, .int .i64 n] 3)) (some ⟨W.heap.size, 0, none⟩) [s, n].length [s, n] := by
    refine Kd.C_of_reads (d := (0 : Int)) (h1 := fun _ => rfl) ⟨rfl, by simp, fun _ => ⟨_, rfl, fun j hj => ?_⟩⟩
    have h0 := blk_cell hb 0
    have h1 := blk_cell hb 1
    have hj : j = 0 ∨ j = 1 := by simp at hj; omega
    rcases hj with rfl | rfl
    · exact h0
    · exact h1
  exact impl_added.calls 3 (some ⟨W.heap.size, 0, none⟩) 2 [s, n] _ _ hC (by simp) (so_added2 0 s n)
theorem so_cell_ad {W : World} {p : Addr} {v : Value} (o : Obj) (nd : Nat) (h : W.cell? p = some v) : ((W.alloc o).drewN nd).cell? p = some v :=
  show (W.alloc o).cell? p = some v from cell_kept h (World.grownBy_alloc W o none) (fun r e => by cases e)
theorem so_frozen_ad {W : World} {p : Addr} {v : Value} (o : Obj) (nd : Nat) (h : W.cell? p = some v) (hf : W.frozen? p = false) : ((W.alloc o).drewN nd).frozen? p = false :=
  show (W.alloc o).frozen? p = false from (frozen_kept h (World.grownBy_alloc W o none) (fun r e => by cases e)).trans hf
theorem so_pw_below_drewN2 {B : Nat} {w W : World} (h : Below B w W) (n : Nat) : Below B w (W.drewN n) := pw_below_drewN h n
theorem so_roundEnd {w W : World} {u v : Value} (B : Nat) (o : Obj) (nd : Nat) (hu : v.oneCell' = true) (hu' : u.oneCell' = true) (hc : W.cell? ⟨w.heap.size, 0, none⟩ = some u) (hf : W.frozen? ⟨w.heap.size, 0, none⟩ = false) (hB : Below w.heap.size w W) :
    KeepsFrom B W (((W.alloc o).drewN nd).setCell ⟨w.heap.size, 0, none⟩ v) ∧ so_Kq (w.heap.size + 1) (w.heap.size + 1 + 1) w.heap.size W (((W.alloc o).drewN nd).setCell ⟨w.heap.size, 0, none⟩ v) ∧
      ((((W.alloc o).drewN nd).setCell ⟨w.heap.size, 0, none⟩ v).cell? ⟨w.heap.size, 0, none⟩ = some v ∧ (((W.alloc o).drewN nd).setCell ⟨w.heap.size, 0, none⟩ v).frozen? ⟨w.heap.size, 0, none⟩ = false) ∧ Below w.heap.size w (((W.alloc o).drewN nd).setCell ⟨w.heap.size, 0, none⟩ v) := by
  have c2 := so_cell_ad o nd hc
  have f2 := so_frozen_ad o nd hc hf
  have b1 : Below w.heap.size W (((W.alloc o).drewN nd).setCell ⟨w.heap.size, 0, none⟩ v) := (so_pw_below_drewN2 ((Below.refl w.heap.size W).alloc hB.size o) nd).setCell (p := ⟨w.heap.size, 0, none⟩) (Nat.le_refl _) _
  have k0 : KeepsOthers (W.alloc o) ((W.alloc o).drewN nd) := ⟨Nat.le_refl _, fun _ _ h _ => h⟩
  refine ⟨(((KeepsOthers.alloc W o).trans k0).trans (KeepsOthers.setCell _ _ _)).from _, ⟨fun x hx => ?_, fun x hx => ?_, b1⟩, ⟨World.cell?_setCell_same' _ _ _ (by rw [c2]; rfl), by rw [World.frozen?_setCell]; exact f2⟩, hB.trans b1⟩
  · rw [cell_far (by simp)]
    exact so_cell_ad o nd hx
  · rw [cell_far (by simp; omega)]
    exact so_cell_ad o nd hx
set_option maxRecDepth 100000 in
set_option maxHeartbeats 4000000 in
theorem so_sumOf_in (ad : Addr) (c0 : Nat) (l0 : List Int) (w : World) (hr0 : Kd.C (Kd.int .u8) w (some ad) l0.length l0) (hc0 : l0.length ≤ c0) (hL : 0 < l0.length) (hlim : l0.length < 140737488355328) :
    CallsIn Fence.wide 5 Try.prog 108 #[.slice (some ad) l0.length c0] w fun e W' => e = .returned (.int .i64 (wrap64 (65535 - so_sumW l0 (so_evens l0.length hL ((l0.length + 1) / 2))))) ∧ Below w.heap.size w W' := by
  refine callsIn_of_wp_marks Try.func108 rfl trivial ?_ rfl
  simp only [Try.ntmps108, List.size_toArray, List.length_cons, List.length_nil, Nat.reduceAdd, Nat.reduceSub, Array.replicate_succ, Array.replicate_zero, List.push_toArray, List.append_toArray, List.nil_append, List.cons_append]
  gi_wp2_with (refine ⟨trivial, ?_⟩; gi_at_call 126; refine (so_chunk_in Fence.wide 4 trivial rfl _ _ _ _).mono ?_; rintro e w' ⟨rfl, rfl⟩)
  have bS := Boxed.new w 3 (.int .i64 0)
  have bs := Boxed.new (w.alloc (.cells #[.int .i64 0] 3)) 22 (.slice (some ad) l0.length c0)
  have bn := Boxed.new ((w.alloc (.cells #[.int .i64 0] 3)).alloc (.cells #[.slice (some ad) l0.length c0] 22)) 3 (.int .i64 2)
  rw [World.size_alloc] at bs
  rw [World.size_alloc, World.size_alloc] at bn
  have hB0 : Below w.heap.size w (((w.alloc (.cells #[.int .i64 0] 3)).alloc (.cells #[.slice (some ad) l0.length c0] 22)).alloc (.cells #[.int .i64 2] 3)) := (((Below.refl _ w).alloc (Nat.le_refl _) _).alloc (by simp) _).alloc (by simp; omega) _
  refine wpIn_rangeFunc_ownG rfl (by decide : 1 ≤ 5) (gf := 136) (lb := #[.pointer (some ⟨w.heap.size + 1, 0, none⟩), .pointer (some ⟨w.heap.size + 1 + 1, 0, none⟩)]) rfl trivial (enters_of Try.func136 (by kernel_rfl) rfl)
    (so_chunk_stops Fence.wide 4 trivial rfl (by omega) (w.heap.size + 1) (w.heap.size + 1 + 1) w.heap.size ad l0.length c0 hL (by omega) hc0 _ (by simp) (by simp) (bs.alloc _).cell bn.cell) so_Kq_t (so_Kq_b hB0.size) (Below.refl _ _) (fun _ => rfl)
    (fun pre W => (W.cell? ⟨w.heap.size, 0, none⟩ = some (.int .i64 (so_sumW l0 pre)) ∧ W.frozen? ⟨w.heap.size, 0, none⟩ = false) ∧ Below w.heap.size w W)
    (fun _ _ _ => False)
    (OwnFrom.and (Own.from (fun s A B row hs hg hr => ⟨cell_kept hs.1 hg hr, (frozen_kept hs.1 hg hr).trans hs.2⟩) _) (ownFrom_below (Nat.le_refl _) (by simp; omega)))
    (fun _ _ _ _ _ hs _ _ => hs)
    ⟨⟨((bS.alloc _).alloc _).cell, ((bS.alloc _).alloc _).frozen⟩, hB0⟩
    (fun x => { tmps := #[.slice (some ad) l0.length c0, undef, .int .i64 0, .pointer (some ⟨w.heap.size, 0, none⟩), so_cutAt ad l0.length x, undef, .slice (some ad) l0.length c0, .func (.func 136) #[] #[.pointer (some ⟨w.heap.size + 1, 0, none⟩), .pointer (some ⟨w.heap.size + 1 + 1, 0, none⟩)], so_cutAt ad l0.length x, undef, undef, undef, undef, undef, undef, undef, undef, undef, undef, undef, undef, undef, undef, undef, undef, undef, undef, undef, undef], defers := [] }) ?assign ?body ?done ?stop
  case assign =>
    intro l x W K hK
    gi_wp2
    exact hK
  case body =>
    rintro lr pre x W ⟨⟨hc, hf⟩, hB⟩ _
    have HRW := Kd.C_below hr0 hB
    have hx := x.2
    obtain ⟨ad', e', h00⟩ := Kd.at_int HRW (x.1 : Int) (by omega) (by omega)
    cases e'
    rw [Int.toNat_natCast] at h00
    by_cases h2 : x.1 + 1 < l0.length
    · have hm : min 2 (l0.length - x.1) = 2 := by omega
      obtain ⟨ad2, e2, h01⟩ := Kd.at_int HRW ((x.1 + 1 : Nat) : Int) (by omega) (by omega)
      cases e2
      rw [Int.toNat_natCast] at h01
      have h01' : W.cell? { block := (ad.add x.1).block, off := (ad.add x.1).off + 1 } = some (.int .u8 (rd l0 ((x.1 + 1 : Nat) : Int))) := by
        have e1 : ({ block := (ad.add x.1).block, off := (ad.add x.1).off + 1 } : Addr) = ad.add (x.1 + 1) := by
          unfold Addr.add
          by_cases h0 : x.1 = 0
          · simp [h0]
          · simp [h0]; omega
        rw [e1]; exact h01
      simp only [so_cutAt, hm]
      gi_wp2_with (refine ⟨trivial, ?_⟩; gi_at_call 127; refine (CallsIn.inRound lr (callsIn_wide.2 (so_addedAt W _ _))).mono ?_; rintro e w' ⟨rfl, ⟨nd, rfl⟩⟩; have hc2 := so_cell_ad (.cells #[.int .i64 (so_sumW l0 pre), .int .i64 (Go.bits .or .i64 (wrap64 (wrap64 (rd l0 (x.1 : Int)) * 256)) (wrap64 (rd l0 ((x.1 : Int) + 1))))] 3) nd hc; have hf2 := so_frozen_ad (.cells #[.int .i64 (so_sumW l0 pre), .int .i64 (Go.bits .or .i64 (wrap64 (wrap64 (rd l0 (x.1 : Int)) * 256)) (wrap64 (rd l0 ((x.1 : Int) + 1))))] 3) nd hc hf)
      obtain ⟨e1, e2, e3, e4⟩ := so_roundEnd (w := w) (W := W) (v := .int .i64 (so_addW (so_sumW l0 pre) (so_nAt l0 x.1))) _ (.cells #[.int .i64 (so_sumW l0 pre), .int .i64 (Go.bits .or .i64 (wrap64 (wrap64 (rd l0 (x.1 : Int)) * 256)) (wrap64 (rd l0 ((x.1 : Int) + 1))))] 3) nd rfl rfl hc hf hB
      have hn : so_nAt l0 x.1 = Go.bits .or .i64 (wrap64 (wrap64 (rd l0 (x.1 : Int)) * 256)) (wrap64 (rd l0 ((x.1 : Int) + 1))) := by unfold so_nAt; rw [if_pos h2]; rfl
      rw [hn] at e1 e2 e3 e4
      exact ⟨e1, e2, ⟨⟨by rw [so_sumW_snoc, hn]; exact e3.1, e3.2⟩, e4⟩⟩
    · have hm : min 2 (l0.length - x.1) = 1 := by omega
      simp only [so_cutAt, hm]
      gi_wp2_with (refine ⟨trivial, ?_⟩; gi_at_call 127; refine (CallsIn.inRound lr (callsIn_wide.2 (so_addedAt W _ _))).mono ?_; rintro e w' ⟨rfl, ⟨nd, rfl⟩⟩; have hc2 := so_cell_ad (.cells #[.int .i64 (so_sumW l0 pre), .int .i64 (wrap64 (wrap64 (rd l0 (x.1 : Int)) * 256))] 3) nd hc; have hf2 := so_frozen_ad (.cells #[.int .i64 (so_sumW l0 pre), .int .i64 (wrap64 (wrap64 (rd l0 (x.1 : Int)) * 256))] 3) nd hc hf)
      obtain ⟨e1, e2, e3, e4⟩ := so_roundEnd (w := w) (W := W) (v := .int .i64 (so_addW (so_sumW l0 pre) (so_nAt l0 x.1))) _ (.cells #[.int .i64 (so_sumW l0 pre), .int .i64 (wrap64 (wrap64 (rd l0 (x.1 : Int)) * 256))] 3) nd rfl rfl hc hf hB
      have hn : so_nAt l0 x.1 = wrap64 (wrap64 (rd l0 (x.1 : Int)) * 256) := by unfold so_nAt; rw [if_neg h2]
      rw [hn] at e1 e2 e3 e4
      exact ⟨e1, e2, ⟨⟨by rw [so_sumW_snoc, hn]; exact e3.1, e3.2⟩, e4⟩⟩
  case done =>
    rintro D ys W hD rfl ⟨⟨hc, _⟩, hB⟩ hK
    gi_wp2
    refine ⟨by simp, .inl ⟨_, _, rfl, run_takeDeferred hK, ?_⟩⟩
    exact ⟨_, results_tmp rfl _ _ _, rfl, hB.trans (belowK_b (w := w) (Nat.le_refl _) W D _ _ (by simp at hD; omega) hK rfl rfl)⟩
  case stop =>
    rintro D c pre W _ _ h _
    exact h.elim
set_option maxRecDepth 100000 in
set_option maxHeartbeats 4000000 in
theorem so_sumOf0_in (A0 : Option Addr) (c0 : Nat) (w : World) :
    CallsIn Fence.wide 5 Try.prog 108 #[.slice A0 0 c0] w fun e W' => e = .returned (.int .i64 65535) ∧ Below w.heap.size w W' := by
  refine callsIn_of_wp_marks Try.func108 rfl trivial ?_ rfl
  simp only [Try.ntmps108, List.size_toArray, List.length_cons, List.length_nil, Nat.reduceAdd, Nat.reduceSub, Array.replicate_succ, Array.replicate_zero, List.push_toArray, List.append_toArray, List.nil_append, List.cons_append]
  gi_wp2_with (refine ⟨trivial, ?_⟩; gi_at_call 126; refine (so_chunk_in Fence.wide 4 trivial rfl _ _ _ _).mono ?_; rintro e w' ⟨rfl, rfl⟩)
  have bS := Boxed.new w 3 (.int .i64 0)
  have bs := Boxed.new (w.alloc (.cells #[.int .i64 0] 3)) 22 (.slice A0 0 c0)
  have bn := Boxed.new ((w.alloc (.cells #[.int .i64 0] 3)).alloc (.cells #[.slice A0 0 c0] 22)) 3 (.int .i64 2)
  rw [World.size_alloc] at bs
  rw [World.size_alloc, World.size_alloc] at bn
  have hB0 : Below w.heap.size w (((w.alloc (.cells #[.int .i64 0] 3)).alloc (.cells #[.slice A0 0 c0] 22)).alloc (.cells #[.int .i64 2] 3)) := (((Below.refl _ w).alloc (Nat.le_refl _) _).alloc (by simp) _).alloc (by simp; omega) _
  have hS : SeqStopsK Fence.wide 4 Try.prog 136 #[.pointer (some ⟨w.heap.size + 1, 0, none⟩), .pointer (some ⟨w.heap.size + 1 + 1, 0, none⟩)] (fun x : so_Pl 0 => #[so_cutAt ⟨0, 0, none⟩ 0 x]) (so_Kq (w.heap.size + 1) (w.heap.size + 1 + 1) w.heap.size) (fun ys => ys = []) (fun _ => True) 0 (((w.alloc (.cells #[.int .i64 0] 3)).alloc (.cells #[.slice A0 0 c0] 22)).alloc (.cells #[.int .i64 2] 3)) :=
    fun l J Jx W hW hJ _ hY h0 => (so_chunk0_in Fence.wide 4 trivial rfl l (w.heap.size + 1) (w.heap.size + 1 + 1) A0 c0 J W ((hW.cell (p := ⟨w.heap.size + 1, 0, none⟩) (by simp)).trans (bs.alloc _).cell) ((hW.cell (p := ⟨w.heap.size + 1 + 1, 0, none⟩) (by simp)).trans bn.cell) h0).mono (fun e W' ⟨he, hj⟩ => ⟨he, .inl ⟨[], rfl, hj⟩⟩)
  refine wpIn_rangeFunc_ownG rfl (by decide : 1 ≤ 5) (gf := 136) (lb := #[.pointer (some ⟨w.heap.size + 1, 0, none⟩), .pointer (some ⟨w.heap.size + 1 + 1, 0, none⟩)]) rfl trivial (enters_of Try.func136 (by kernel_rfl) rfl)
    hS so_Kq_t (so_Kq_b hB0.size) (Below.refl _ _) (fun _ => rfl)
    (fun pre W => (W.cell? ⟨w.heap.size, 0, none⟩ = some (.int .i64 0) ∧ W.frozen? ⟨w.heap.size, 0, none⟩ = false) ∧ Below w.heap.size w W)
    (fun _ _ _ => False)
    (OwnFrom.and (Own.from (fun s A B row hs hg hr => ⟨cell_kept hs.1 hg hr, (frozen_kept hs.1 hg hr).trans hs.2⟩) _) (ownFrom_below (Nat.le_refl _) (by simp; omega)))
    (fun _ _ _ _ _ hs _ _ => hs)
    ⟨⟨((bS.alloc _).alloc _).cell, ((bS.alloc _).alloc _).frozen⟩, hB0⟩
    (fun x => { tmps := #[], defers := [] }) ?assign ?body ?done ?stop
  case assign =>
    intro l x W K hK
    exact absurd x.2 (Nat.not_lt_zero _)
  case body =>
    rintro lr pre x W _ _
    exact absurd x.2 (Nat.not_lt_zero _)
  case done =>
    rintro D ys W hD rfl ⟨⟨hc, _⟩, hB⟩ hK
    gi_wp2
    refine ⟨by simp, .inl ⟨_, _, rfl, run_takeDeferred hK, ?_⟩⟩
    exact ⟨_, results_tmp rfl _ _ _, rfl, hB.trans (belowK_b (w := w) (Nat.le_refl _) W D _ _ (by simp at hD; omega) hK rfl rfl)⟩
  case stop =>
    rintro D c pre W _ _ h _
    exact h.elim
/-- The sum of a row's bytes, two by two. -/
def so_sumAll (l : List Int) : Int := if h : 0 < l.length then so_sumW l (so_evens l.length h ((l.length + 1) / 2)) else 0
end SumOf_
open SumOf_ in
def impl_sumOf.f (l0 : List Int) : Option Int := if l0.length < 140737488355328 then some (wrap64 (65535 - so_sumAll l0)) else none
open SumOf_ in
theorem impl_sumOf.calls (A0 : Option Addr) (c0 : Nat) (l0 : List Int) (r : Int) (w : World) (hr0 : Kd.C (Kd.int .u8) w A0 l0.length l0) (hc0 : l0.length ≤ c0) (h : impl_sumOf.f l0 = some r) :
    Calls Try.prog 108 #[.slice A0 l0.length c0] w fun e w' => e = .returned (.int .i64 r) ∧ Below w.heap.size w w' := by
 unfold impl_sumOf.f at h
 by_cases hlim : l0.length < 140737488355328
 ·rw [if_pos hlim] at h
  obtain rfl := Option.some.inj h
  unfold so_sumAll
  by_cases hL : 0 < l0.length
  ·rw [dif_pos hL]
   obtain ⟨ad, rfl, _⟩ := Kd.at_int hr0 0 (by omega) (by omega)
   exact (callsIn_wide (n := 5)).1 (so_sumOf_in ad c0 l0 w hr0 hc0 hL hlim)
  ·rw [dif_neg hL, show wrap64 (65535 - 0) = 65535 by unfold wrap64; omega]
   obtain rfl : l0 = [] := List.eq_nil_of_length_eq_zero (by omega)
   exact (callsIn_wide (n := 5)).1 (so_sumOf0_in A0 c0 w)
 · rw [if_neg hlim] at h; cases h

end Go.Proofs.Ytkkibccnpkbbjab.MFnExactNoteAbout
