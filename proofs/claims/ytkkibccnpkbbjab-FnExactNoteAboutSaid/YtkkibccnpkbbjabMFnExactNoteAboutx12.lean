/- Functions that the law FnExactNoteAbout reaches, each with the proof that the machine's call comes to just its answer; no conditions but those that each theorem states. Printed by a program of this session over the kit's print. -/
import Derived.Test.YtkkibccnpkbbjabMFnExactNoteAboutx0
import Derived.Test.YtkkibccnpkbbjabMFnExactNoteAboutx6
import Derived.Test.YtkkibccnpkbbjabMFnExactNoteAboutx7
import Derived.Test.YtkkibccnpkbbjabMFnExactNoteAboutx8
import Derived.Test.YtkkibccnpkbbjabMFnExactNoteAboutx10
import Derived.Test.YtkkibccnpkbbjabMFnExactNoteAboutx11
namespace Go.Proofs.Ytkkibccnpkbbjab.MFnExactNoteAbout
open Go.RowKit Go.Proofs.YtkkibccnpkbbjabV.PrintWords Go.Proofs.YtkkibccnpkbbjabV.PrintLast Go.Proofs.YtkkibccnpkbbjabV.PrintMore
attribute [local go_sem] max2_int min2_int max_two min_two max_three min_three max_four min_four   -- for this text's walks alone
set_option linter.unusedVariables false
set_option linter.unusedSimpArgs false

/-! ### spec_NoteFault: function 69 -/
def spec_NoteFault.f (k : Nat) (a0_0 : Int) (a0_1 : Int) (a0_2 : Int) (a0_3 : Int) (a0_4 : Int) (a0_5 : Int) (a0_6 : Bool) (a0_7 : Bool) (l0_8 : List Int) : Option (Bool) := (spec_NoteFrom.f k l0_8).bind fun bt315 => (if bt315.2.2.2 = true then (if a0_2 = 1 then (some (decide (bt315.1 ≥ 3))) else (some false)) else (some false))
theorem spec_NoteFault.mono : ∀ a0 a1 a2 a3 a4 a5 a6 a7 a8 k, LeO (spec_NoteFault.f k a0 a1 a2 a3 a4 a5 a6 a7 a8) (spec_NoteFault.f (k + 1) a0 a1 a2 a3 a4 a5 a6 a7 a8) := by
 intro a0 a1 a2 a3 a4 a5 a6 a7 a8 k
 unfold spec_NoteFault.f
 repeat' first
   | (with_reducible exact spec_NoteFrom.mono _ _)
   | (with_reducible exact LeO.refl _)
   | (with_reducible exact LeO.none _)
   | (with_reducible refine LeO.ite ?_ ?_)
   | (with_reducible refine LeO.bind ?_ (fun _ => ?_))
   | exact spec_NoteFrom.mono _ _
   | exact LeO.none _
   | refine LeO.ite ?_ ?_
   | refine LeO.bind ?_ (fun _ => ?_)
set_option maxHeartbeats 8000000 in
set_option maxRecDepth 100000 in
theorem spec_NoteFault.calls (k : Nat) (a0_0 : Int) (a0_1 : Int) (a0_2 : Int) (a0_3 : Int) (a0_4 : Int) (a0_5 : Int) (a0_6 : Bool) (a0_7 : Bool) (A0_8 : Option Addr) (c0_8 : Nat) (l0_8 : List Int) (r : Bool) (w : World) (hr0_8 : Kd.C (Kd.int .u8) w A0_8 l0_8.length l0_8) (hc0_8 : l0_8.length ≤ c0_8) (h : spec_NoteFault.f k a0_0 a0_1 a0_2 a0_3 a0_4 a0_5 a0_6 a0_7 l0_8 = some r) :
  Calls Try.prog 69 #[.agg #[.int .i64 a0_0, .int .i64 a0_1, .int .i64 a0_2, .int .i64 a0_3, .int .i64 a0_4, .int .i64 a0_5, .bool a0_6, .bool a0_7, .slice A0_8 l0_8.length c0_8]] w fun e w' => e = .returned (.bool r) ∧ Below w.heap.size w w' := by
 have hu37 := Try.underlying37
 have hu44 := Try.underlying44
 have HR0_8 := mk_ hr0_8
 have HC0_8 := mk_ hc0_8
 clear hr0_8 hc0_8
 have HB := mk_ (Below.refl w.heap.size w)
 have H := h
 unfold spec_NoteFault.f at H
 clear h
 replace H := Option.bind_eq_some_iff.mp H
 obtain ⟨⟨t315, t316, t317, t320⟩, A20, H⟩ := H
 (try dsimp only at H)
 have A2 := mk_ A20
 clear A20
 by_cases c3 : t320 = true
 rotate_left
 ·replace c3 := Bool.eq_false_iff.mpr c3
  subst c3
  have H1 : (some false) = some r := by rw [if_neg (show ¬ (false = true) by decide)] at H; exact H
  clear H
  have H := H1
  clear H1
  obtain rfl := Option.some.inj H
  go_enter Try.func69, Try.ntmps69
  go_wp2_with (first | ((with_reducible refine gate_dst (N := 1) rfl ?_); refine box_event ?hg (N := 1) ?hd (cs := #[.int .i64 a0_0, .int .i64 a0_1, .int .i64 a0_2, .int .i64 a0_3, .int .i64 a0_4, .int .i64 a0_5, .bool a0_6, .bool a0_7, .slice A0_8 l0_8.length c0_8]) (t := 37) ?hr ?_; (case hd => rfl); (case hg => rfl); (case hr => first | (go_simp; done) | (go_simp; rfl)); intro gb314 hg w21 hbox hb; have n0_ := mk_ (below_step (ub_ HB.out) hb); have BK314 := mk_ (hbox); have GW314 := mk_ ((by rw [hg]; exact (below_size (ub_ HB.out)) : w.heap.size ≤ gb314)); have GE314 := ge_ ((by rw [hg]; exact (below_size (ub_ HB.out)) : w.heap.size ≤ gb314)); replace HB := n0_; clear n0_; clear hb hbox hg; obtain ⟨_, _, _, _, _, _, _, _, _, _, _, _, _, _, _, _, _, _⟩ := cells9_ BK314.out) | ((with_reducible refine gate_callee (f := 59) rfl ?_); refine goesL_ (some 8) rfl rfl Try.func59 (by kernel_rfl) rfl #[.slice A0_8 l0_8.length c0_8] rfl (by (try simp only [lm_, lo_, ln_]); try rfl) ?_; (with_reducible refine (spec_NoteFrom.calls k _ _ l0_8 t315 t316 t317 false _ ?side1 ?side2 A2.out).mono ?_); (case side1 => repeat (first | exact (Kd.C_below HR0_8.out HB.out) | (with_reducible refine Kd.C_alloc ?_ _) | (with_reducible refine Kd.C_drewN ?_ _) | (with_reducible refine Kd.C_drew ?_))); (case side2 => exact HC0_8.out); rintro e w23 ⟨v318, rfl, ho0, hb⟩; refine ⟨_, rfl, ?_⟩; have HO319 := mk_ (Kd.R_lower ho0 (below_size (us_ HB.out))); replace BK314 := mk_ (blk_below (u_ BK314.out) hb); replace HB := mk_ (below_step (us_ HB.out) hb)) | ((with_reducible refine gate_dst (N := 3) rfl ?_); refine box_event ?hg (N := 3) ?hd (cs := #[.int .i64 0, .int .i64 0, .slice none 0 0]) (t := 44) ?hr ?_; (case hd => rfl); (case hg => rfl); (case hr => first | (go_simp; done) | (go_simp; rfl)); intro gb321 hg w24 hbox hb; replace HO319 := mk_ (Kd.R_below (Kd.ur_ HO319.out) hb); have n1_ := mk_ (blk_below (u_ BK314.out) hb); have n2_ := mk_ (below_step (us_ HB.out) hb); have BK321 := mk_ (hbox); have GW321 := mk_ ((by rw [hg]; exact (below_size (us_ HB.out)) : w.heap.size ≤ gb321)); have GE321 := ge_ ((by rw [hg]; exact (below_size (us_ HB.out)) : w.heap.size ≤ gb321)); have NB314_321 := nq_ ((by rw [hg]; exact Nat.ne_of_lt (blk_lt (u_ BK314.out)) : gb314 ≠ gb321)); have NB321_314 := nq_ ((by rw [hg]; exact Nat.ne_of_gt (blk_lt (u_ BK314.out)) : gb321 ≠ gb314)); replace BK314 := n1_; replace HB := n2_; clear n1_ n2_; clear hb hbox hg; have hnb25 := NB321_314.out; have hnc25 := NB314_321.out; obtain ⟨hcz26_0, hcz26_1, hcz26_2, hfz26_0, hfz26_1, hfz26_2⟩ := cells3_ BK321.out; obtain ⟨Ao27, co27, eo27⟩ := Kd.R_slice HO319.out; subst eo27))
  go_ret
  exact ⟨by first | rfl | (simp [errW_none, errW_some] <;> rfl) | (simp [*, errW_none, errW_some] <;> rfl), us_ HB.out⟩
 subst c3
 rw [if_pos rfl] at H
 by_cases c4 : a0_2 = 1
 rotate_left
 ·rw [if_neg c4] at H
  have c4b0 : (a0_2 == 1) = false := beq_eq_false_iff_ne.mpr c4
  have c4b1 : (a0_2 != 1) = true := bne_iff_ne.mpr c4
  obtain rfl := Option.some.inj H
  go_enter Try.func69, Try.ntmps69
  go_wp2_with (first | ((with_reducible refine gate_dst (N := 1) rfl ?_); refine box_event ?hg (N := 1) ?hd (cs := #[.int .i64 a0_0, .int .i64 a0_1, .int .i64 a0_2, .int .i64 a0_3, .int .i64 a0_4, .int .i64 a0_5, .bool a0_6, .bool a0_7, .slice A0_8 l0_8.length c0_8]) (t := 37) ?hr ?_; (case hd => rfl); (case hg => rfl); (case hr => first | (go_simp; done) | (go_simp; rfl)); intro gb314 hg w13 hbox hb; have n0_ := mk_ (below_step (ub_ HB.out) hb); have BK314 := mk_ (hbox); have GW314 := mk_ ((by rw [hg]; exact (below_size (ub_ HB.out)) : w.heap.size ≤ gb314)); have GE314 := ge_ ((by rw [hg]; exact (below_size (ub_ HB.out)) : w.heap.size ≤ gb314)); replace HB := n0_; clear n0_; clear hb hbox hg; obtain ⟨hcz14_0, hcz14_1, hcz14_2, hcz14_3, hcz14_4, hcz14_5, hcz14_6, hcz14_7, hcz14_8, hfz14_0, hfz14_1, hfz14_2, hfz14_3, hfz14_4, hfz14_5, hfz14_6, hfz14_7, hfz14_8⟩ := cells9_ BK314.out) | ((with_reducible refine gate_callee (f := 59) rfl ?_); refine goesL_ (some 8) rfl rfl Try.func59 (by kernel_rfl) rfl #[.slice A0_8 l0_8.length c0_8] rfl (by (try simp only [lm_, lo_, ln_]); try rfl) ?_; (with_reducible refine (spec_NoteFrom.calls k _ _ l0_8 t315 t316 t317 true _ ?side1 ?side2 A2.out).mono ?_); (case side1 => repeat (first | exact (Kd.C_below HR0_8.out HB.out) | (with_reducible refine Kd.C_alloc ?_ _) | (with_reducible refine Kd.C_drewN ?_ _) | (with_reducible refine Kd.C_drew ?_))); (case side2 => exact HC0_8.out); rintro e w15 ⟨v318, rfl, ho0, hb⟩; refine ⟨_, rfl, ?_⟩; have HO319 := mk_ (Kd.R_lower ho0 (below_size (us_ HB.out))); replace BK314 := mk_ (blk_below (u_ BK314.out) hb); replace HB := mk_ (below_step (us_ HB.out) hb)) | ((with_reducible refine gate_dst (N := 3) rfl ?_); refine box_event ?hg (N := 3) ?hd (cs := #[.int .i64 0, .int .i64 0, .slice none 0 0]) (t := 44) ?hr ?_; (case hd => rfl); (case hg => rfl); (case hr => first | (go_simp; done) | (go_simp; rfl)); intro gb321 hg w16 hbox hb; replace HO319 := mk_ (Kd.R_below (Kd.ur_ HO319.out) hb); have n1_ := mk_ (blk_below (u_ BK314.out) hb); have n2_ := mk_ (below_step (us_ HB.out) hb); have BK321 := mk_ (hbox); have GW321 := mk_ ((by rw [hg]; exact (below_size (us_ HB.out)) : w.heap.size ≤ gb321)); have GE321 := ge_ ((by rw [hg]; exact (below_size (us_ HB.out)) : w.heap.size ≤ gb321)); have NB314_321 := nq_ ((by rw [hg]; exact Nat.ne_of_lt (blk_lt (u_ BK314.out)) : gb314 ≠ gb321)); have NB321_314 := nq_ ((by rw [hg]; exact Nat.ne_of_gt (blk_lt (u_ BK314.out)) : gb321 ≠ gb314)); replace BK314 := n1_; replace HB := n2_; clear n1_ n2_; clear hb hbox hg; have hnb17 := NB321_314.out; have hnc17 := NB314_321.out; obtain ⟨_, _, _, _, _, _⟩ := cells3_ BK321.out; obtain ⟨Ao19, co19, eo19⟩ := Kd.R_slice HO319.out; subst eo19; obtain ⟨hcz20_0, hcz20_1, hcz20_2, hcz20_3, hcz20_4, hcz20_5, hcz20_6, hcz20_7, hcz20_8, hfz20_0, hfz20_1, hfz20_2, hfz20_3, hfz20_4, hfz20_5, hfz20_6, hfz20_7, hfz20_8⟩ := cells9_ BK314.out))
  go_ret
  exact ⟨by first | rfl | (simp [errW_none, errW_some] <;> rfl) | (simp [*, errW_none, errW_some] <;> rfl), us_ HB.out⟩
 rw [if_pos c4] at H
 have c4b0 : (a0_2 == 1) = true := beq_iff_eq.mpr c4
 have c4b1 : (a0_2 != 1) = false := bne_eq_false_iff_eq.mpr c4
 clear c4
 obtain rfl := Option.some.inj H
 go_enter Try.func69, Try.ntmps69
 go_wp2_with (first | ((with_reducible refine gate_dst (N := 1) rfl ?_); refine box_event ?hg (N := 1) ?hd (cs := #[.int .i64 a0_0, .int .i64 a0_1, .int .i64 a0_2, .int .i64 a0_3, .int .i64 a0_4, .int .i64 a0_5, .bool a0_6, .bool a0_7, .slice A0_8 l0_8.length c0_8]) (t := 37) ?hr ?_; (case hd => rfl); (case hg => rfl); (case hr => first | (go_simp; done) | (go_simp; rfl)); intro gb314 hg w5 hbox hb; have n0_ := mk_ (below_step (ub_ HB.out) hb); have BK314 := mk_ (hbox); have GW314 := mk_ ((by rw [hg]; exact (below_size (ub_ HB.out)) : w.heap.size ≤ gb314)); have GE314 := ge_ ((by rw [hg]; exact (below_size (ub_ HB.out)) : w.heap.size ≤ gb314)); replace HB := n0_; clear n0_; clear hb hbox hg; obtain ⟨hcz6_0, hcz6_1, hcz6_2, hcz6_3, hcz6_4, hcz6_5, hcz6_6, hcz6_7, hcz6_8, hfz6_0, hfz6_1, hfz6_2, hfz6_3, hfz6_4, hfz6_5, hfz6_6, hfz6_7, hfz6_8⟩ := cells9_ BK314.out) | ((with_reducible refine gate_callee (f := 59) rfl ?_); refine goesL_ (some 8) rfl rfl Try.func59 (by kernel_rfl) rfl #[.slice A0_8 l0_8.length c0_8] rfl (by (try simp only [lm_, lo_, ln_]); try rfl) ?_; (with_reducible refine (spec_NoteFrom.calls k _ _ l0_8 t315 t316 t317 true _ ?side1 ?side2 A2.out).mono ?_); (case side1 => repeat (first | exact (Kd.C_below HR0_8.out HB.out) | (with_reducible refine Kd.C_alloc ?_ _) | (with_reducible refine Kd.C_drewN ?_ _) | (with_reducible refine Kd.C_drew ?_))); (case side2 => exact HC0_8.out); rintro e w7 ⟨v318, rfl, ho0, hb⟩; refine ⟨_, rfl, ?_⟩; have HO319 := mk_ (Kd.R_lower ho0 (below_size (us_ HB.out))); replace BK314 := mk_ (blk_below (u_ BK314.out) hb); replace HB := mk_ (below_step (us_ HB.out) hb)) | ((with_reducible refine gate_dst (N := 3) rfl ?_); refine box_event ?hg (N := 3) ?hd (cs := #[.int .i64 0, .int .i64 0, .slice none 0 0]) (t := 44) ?hr ?_; (case hd => rfl); (case hg => rfl); (case hr => first | (go_simp; done) | (go_simp; rfl)); intro gb321 hg w8 hbox hb; replace HO319 := mk_ (Kd.R_below (Kd.ur_ HO319.out) hb); have n1_ := mk_ (blk_below (u_ BK314.out) hb); have n2_ := mk_ (below_step (us_ HB.out) hb); have BK321 := mk_ (hbox); have GW321 := mk_ ((by rw [hg]; exact (below_size (us_ HB.out)) : w.heap.size ≤ gb321)); have GE321 := ge_ ((by rw [hg]; exact (below_size (us_ HB.out)) : w.heap.size ≤ gb321)); have NB314_321 := nq_ ((by rw [hg]; exact Nat.ne_of_lt (blk_lt (u_ BK314.out)) : gb314 ≠ gb321)); have NB321_314 := nq_ ((by rw [hg]; exact Nat.ne_of_gt (blk_lt (u_ BK314.out)) : gb321 ≠ gb314)); replace BK314 := n1_; replace HB := n2_; clear n1_ n2_; clear hb hbox hg; have hnb9 := NB321_314.out; have hnc9 := NB314_321.out; obtain ⟨hcz10_0, hcz10_1, hcz10_2, hfz10_0, hfz10_1, hfz10_2⟩ := cells3_ BK321.out; obtain ⟨Ao11, co11, eo11⟩ := Kd.R_slice HO319.out; subst eo11; obtain ⟨hcz12_0, hcz12_1, hcz12_2, hcz12_3, hcz12_4, hcz12_5, hcz12_6, hcz12_7, hcz12_8, hfz12_0, hfz12_1, hfz12_2, hfz12_3, hfz12_4, hfz12_5, hfz12_6, hfz12_7, hfz12_8⟩ := cells9_ BK314.out))
 go_ret
 exact ⟨by first | rfl | (simp [errW_none, errW_some] <;> rfl) | (simp [*, errW_none, errW_some] <;> rfl), us_ HB.out⟩

/-! ### spec_NoteAbout: function 25 -/
def spec_NoteAbout.f (k : Nat) (a0_0 : Int) (a0_1 : Int) (a0_2 : Int) (a0_3 : Int) (a0_4 : Int) (a0_5 : Int) (a0_6 : Bool) (a0_7 : Bool) (l0_8 : List Int) (a1 : Int) (a2 : Int) (a3 : Int) : Option (Int × Int × Int × Int × Int × Int × Bool × Bool × List Int × Bool) := (spec_PacketBytes.f k a0_0 a0_1 a0_2 a0_3 a0_4 a0_5 a0_6 a0_7 l0_8).bind fun t324 => (if 0 ≤ (mn (t324.length : Int) 20) then (if (mn (t324.length : Int) 20) ≤ (t324.length : Int) then ((spec_NoteBytes.f k a2 a3 (t324.take ((mn (t324.length : Int) 20) : Int).toNat)).bind fun t331 => ((spec_PacketOk.f a0_0 a0_1 a0_2 a0_3 a0_4 a0_5 a0_6 a0_7 l0_8).bind fun t334 => (if t334 = true then ((spec_l1In.f a1 0 65535).bind fun t335 => (if t335 = true then ((spec_l1In.f a2 3 6).bind fun t336 => (if t336 = true then (if (t331.length : Int) = 0 then (some (0, 0, 0, 0, 0, 0, false, false, ([] : List Int), false)) else ((spec_NoteFault.f k a0_0 a0_1 a0_2 a0_3 a0_4 a0_5 a0_6 a0_7 l0_8).bind fun t337 => (if t337 = true then (some (0, 0, 0, 0, 0, 0, false, false, ([] : List Int), false)) else (if a0_5 > 0 then (some (0, 0, 0, 0, 0, 0, false, false, ([] : List Int), false)) else (some (a1, a0_0, 1, 64, a0_4, 0, false, false, t331, true)))))) else (some (0, 0, 0, 0, 0, 0, false, false, ([] : List Int), false)))) else (some (0, 0, 0, 0, 0, 0, false, false, ([] : List Int), false)))) else (some (0, 0, 0, 0, 0, 0, false, false, ([] : List Int), false))))) else (none)) else (none))
theorem spec_NoteAbout.mono : ∀ a0 a1 a2 a3 a4 a5 a6 a7 a8 a9 a10 a11 k, LeO (spec_NoteAbout.f k a0 a1 a2 a3 a4 a5 a6 a7 a8 a9 a10 a11) (spec_NoteAbout.f (k + 1) a0 a1 a2 a3 a4 a5 a6 a7 a8 a9 a10 a11) := by
 intro a0 a1 a2 a3 a4 a5 a6 a7 a8 a9 a10 a11 k
 unfold spec_NoteAbout.f
 repeat' first
   | (with_reducible exact spec_NoteBytes.mono _ _ _ _)
   | (with_reducible exact spec_NoteFault.mono _ _ _ _ _ _ _ _ _ _)
   | (with_reducible exact spec_PacketBytes.mono _ _ _ _ _ _ _ _ _ _)
   | (with_reducible exact LeO.refl _)
   | (with_reducible exact LeO.none _)
   | (with_reducible refine LeO.ite ?_ ?_)
   | (with_reducible refine LeO.bind ?_ (fun _ => ?_))
   | exact spec_NoteBytes.mono _ _ _ _
   | exact spec_NoteFault.mono _ _ _ _ _ _ _ _ _ _
   | exact spec_PacketBytes.mono _ _ _ _ _ _ _ _ _ _
   | exact LeO.none _
   | refine LeO.ite ?_ ?_
   | refine LeO.bind ?_ (fun _ => ?_)
set_option maxHeartbeats 8000000 in
set_option maxRecDepth 100000 in
theorem spec_NoteAbout.calls (k : Nat) (a0_0 : Int) (a0_1 : Int) (a0_2 : Int) (a0_3 : Int) (a0_4 : Int) (a0_5 : Int) (a0_6 : Bool) (a0_7 : Bool) (A0_8 : Option Addr) (c0_8 : Nat) (l0_8 : List Int) (a1 : Int) (a2 : Int) (a3 : Int) (r1 : Int) (r2 : Int) (r3 : Int) (r4 : Int) (r5 : Int) (r6 : Int) (r7 : Bool) (r8 : Bool) (r9 : List Int) (r10 : Bool) (w : World) (hr0_8 : Kd.C (Kd.int .u8) w A0_8 l0_8.length l0_8) (hc0_8 : l0_8.length ≤ c0_8) (h : spec_NoteAbout.f k a0_0 a0_1 a0_2 a0_3 a0_4 a0_5 a0_6 a0_7 l0_8 a1 a2 a3 = some (r1, r2, r3, r4, r5, r6, r7, r8, r9, r10)) :
  Calls Try.prog 25 #[.agg #[.int .i64 a0_0, .int .i64 a0_1, .int .i64 a0_2, .int .i64 a0_3, .int .i64 a0_4, .int .i64 a0_5, .bool a0_6, .bool a0_7, .slice A0_8 l0_8.length c0_8], .int .i64 a1, .int .i64 a2, .int .i64 a3] w fun e w' => ∃ v8_ : Value, e = .returned (.tuple #[.agg #[.int .i64 r1, .int .i64 r2, .int .i64 r3, .int .i64 r4, .int .i64 r5, .int .i64 r6, .bool r7, .bool r8, v8_], .bool r10]) ∧ Kd.R (Kd.int .u8) 5 w' w.heap.size (fun _ => True) v8_ r9 ∧ Below w.heap.size w w' := by
 have hu37 := Try.underlying37
 have hu44 := Try.underlying44
 have HR0_8 := mk_ hr0_8
 have HC0_8 := mk_ hc0_8
 clear hr0_8 hc0_8
 have HB := mk_ (Below.refl w.heap.size w)
 have H := h
 unfold spec_NoteAbout.f at H
 clear h
 replace H := Option.bind_eq_some_iff.mp H
 obtain ⟨t324, A50, H⟩ := H
 (try dsimp only at H)
 have A5 := mk_ A50
 clear A50
 obtain ⟨ji6, hji6⟩ : ∃ j_ : Int, (mn (t324.length : Int) 20) = j_ := ⟨_, rfl⟩
 replace H : (if 0 ≤ (ji6) then (if (ji6) ≤ (t324.length : Int) then ((spec_NoteBytes.f k a2 a3 (t324.take ((ji6) : Int).toNat)).bind fun t331 => ((spec_PacketOk.f a0_0 a0_1 a0_2 a0_3 a0_4 a0_5 a0_6 a0_7 l0_8).bind fun t334 => (if t334 = true then ((spec_l1In.f a1 0 65535).bind fun t335 => (if t335 = true then ((spec_l1In.f a2 3 6).bind fun t336 => (if t336 = true then (if (t331.length : Int) = 0 then (some (0, 0, 0, 0, 0, 0, false, false, ([] : List Int), false)) else ((spec_NoteFault.f k a0_0 a0_1 a0_2 a0_3 a0_4 a0_5 a0_6 a0_7 l0_8).bind fun t337 => (if t337 = true then (some (0, 0, 0, 0, 0, 0, false, false, ([] : List Int), false)) else (if a0_5 > 0 then (some (0, 0, 0, 0, 0, 0, false, false, ([] : List Int), false)) else (some (a1, a0_0, 1, 64, a0_4, 0, false, false, t331, true)))))) else (some (0, 0, 0, 0, 0, 0, false, false, ([] : List Int), false)))) else (some (0, 0, 0, 0, 0, 0, false, false, ([] : List Int), false)))) else (some (0, 0, 0, 0, 0, 0, false, false, ([] : List Int), false))))) else (none)) else (none)) = some (r1, r2, r3, r4, r5, r6, r7, r8, r9, r10) := by first | (rw [hji6] at H; exact H) | (simp only [hji6] at H ⊢; exact H)
 (try rw [hji6] at A5)
 (try (have hji6h : ji6 ≤ 20 := by (rw [← hji6]; unfold mn; (repeat' split) <;> omega)))
 (try (have hji6g : ji6 ≤ 64 := by omega))
 (try (have hji6l : 0 ≤ ji6 := by (rw [← hji6]; unfold mn; (repeat' split) <;> omega)))
 (try (have hji6m : 0 ≤ ji6 := by omega))
 have hji6_ : (if 20 < (t324.length : Int) then 20 else (t324.length : Int)) = ji6 := hji6
 by_cases c7 : 0 ≤ (ji6)
 rotate_left
 ·rw [if_neg c7] at H
  exact absurd H (by simp)
 rw [if_pos c7] at H
 have c7b0 := eq_true c7
 have c7b1 : decide (0 ≤ (ji6)) = true := decide_eq_true c7
 clear c7
 by_cases c8 : (ji6) ≤ (t324.length : Int)
 rotate_left
 ·rw [if_neg c8] at H
  exact absurd H (by simp)
 rw [if_pos c8] at H
 have c8b0 := eq_true c8
 have c8b1 : decide ((ji6) ≤ (t324.length : Int)) = true := decide_eq_true c8
 clear c8
 obtain ⟨y327, hy327⟩ : ∃ y_ : List Int, y_ = (t324.take ((ji6) : Int).toNat) := ⟨_, rfl⟩
 replace H : ((spec_NoteBytes.f k a2 a3 y327).bind fun t331 => ((spec_PacketOk.f a0_0 a0_1 a0_2 a0_3 a0_4 a0_5 a0_6 a0_7 l0_8).bind fun t334 => (if t334 = true then ((spec_l1In.f a1 0 65535).bind fun t335 => (if t335 = true then ((spec_l1In.f a2 3 6).bind fun t336 => (if t336 = true then (if (t331.length : Int) = 0 then (some (0, 0, 0, 0, 0, 0, false, false, ([] : List Int), false)) else ((spec_NoteFault.f k a0_0 a0_1 a0_2 a0_3 a0_4 a0_5 a0_6 a0_7 l0_8).bind fun t337 => (if t337 = true then (some (0, 0, 0, 0, 0, 0, false, false, ([] : List Int), false)) else (if a0_5 > 0 then (some (0, 0, 0, 0, 0, 0, false, false, ([] : List Int), false)) else (some (a1, a0_0, 1, 64, a0_4, 0, false, false, t331, true)))))) else (some (0, 0, 0, 0, 0, 0, false, false, ([] : List Int), false)))) else (some (0, 0, 0, 0, 0, 0, false, false, ([] : List Int), false)))) else (some (0, 0, 0, 0, 0, 0, false, false, ([] : List Int), false))))) = some (r1, r2, r3, r4, r5, r6, r7, r8, r9, r10) := by first | (rw [hy327]; with_reducible exact H) | (have H2_ := (Option.bind_some _ _).symm.trans H; rw [hy327]; with_reducible exact H2_) | (have H2_ := (Option.bind_some _ _).symm.trans H; with_reducible exact H2_) | with_reducible exact H | (rw [hy327]; exact H) | exact H
 have Ny327 := mk_ hy327
 clear hy327
 replace H := Option.bind_eq_some_iff.mp H
 obtain ⟨t331, A90, H⟩ := H
 (try dsimp only at H)
 have A9 := mk_ A90
 clear A90
 replace H := Option.bind_eq_some_iff.mp H
 obtain ⟨t334, A100, H⟩ := H
 (try dsimp only at H)
 have A10 := mk_ A100
 clear A100
 by_cases c11 : t334 = true
 rotate_left
 focus
  replace c11 := Bool.eq_false_iff.mpr c11
  subst c11
  rw [if_neg (show ¬ (false = true) by decide)] at H
  simp only [Option.some.injEq, Prod.mk.injEq] at H
  obtain ⟨rfl, rfl, rfl, rfl, rfl, rfl, rfl, rfl, rfl, rfl⟩ := H
 rotate_left
 focus
  subst c11
  rw [if_pos rfl] at H
  replace H := Option.bind_eq_some_iff.mp H
  obtain ⟨t335, A120, H⟩ := H
  (try dsimp only at H)
  have A12 := mk_ A120
  clear A120
  by_cases c13 : t335 = true
  rotate_left
  focus
   replace c13 := Bool.eq_false_iff.mpr c13
   subst c13
   rw [if_neg (show ¬ (false = true) by decide)] at H
   simp only [Option.some.injEq, Prod.mk.injEq] at H
   obtain ⟨rfl, rfl, rfl, rfl, rfl, rfl, rfl, rfl, rfl, rfl⟩ := H
  rotate_left
  focus
   subst c13
   rw [if_pos rfl] at H
   replace H := Option.bind_eq_some_iff.mp H
   obtain ⟨t336, A140, H⟩ := H
   (try dsimp only at H)
   have A14 := mk_ A140
   clear A140
   by_cases c15 : t336 = true
   rotate_left
   focus
    replace c15 := Bool.eq_false_iff.mpr c15
    subst c15
    rw [if_neg (show ¬ (false = true) by decide)] at H
    simp only [Option.some.injEq, Prod.mk.injEq] at H
    obtain ⟨rfl, rfl, rfl, rfl, rfl, rfl, rfl, rfl, rfl, rfl⟩ := H
   rotate_left
   focus
    subst c15
    rw [if_pos rfl] at H
    by_cases c16 : (t331.length : Int) = 0
    focus
     rw [if_pos c16] at H
     have c16b0 : ((t331.length : Int) == 0) = true := beq_iff_eq.mpr c16
     have c16b1 : ((t331.length : Int) != 0) = false := bne_eq_false_iff_eq.mpr c16
     clear c16
     simp only [Option.some.injEq, Prod.mk.injEq] at H
     obtain ⟨rfl, rfl, rfl, rfl, rfl, rfl, rfl, rfl, rfl, rfl⟩ := H
    rotate_left
    focus
     rw [if_neg c16] at H
     have c16b0 : ((t331.length : Int) == 0) = false := beq_eq_false_iff_ne.mpr c16
     have c16b1 : ((t331.length : Int) != 0) = true := bne_iff_ne.mpr c16
     have c16b2 : ¬ (t331 = []) := fun h_ => c16 (by rw [h_]; rfl)
     replace H := Option.bind_eq_some_iff.mp H
     obtain ⟨t337, A290, H⟩ := H
     (try dsimp only at H)
     have A29 := mk_ A290
     clear A290
     by_cases c30 : t337 = true
     focus
      subst c30
      rw [if_pos rfl] at H
      simp only [Option.some.injEq, Prod.mk.injEq] at H
      obtain ⟨rfl, rfl, rfl, rfl, rfl, rfl, rfl, rfl, rfl, rfl⟩ := H
     rotate_left
     focus
      replace c30 := Bool.eq_false_iff.mpr c30
      subst c30
      rw [if_neg (show ¬ (false = true) by decide)] at H
      by_cases c45 : a0_5 > 0
      focus
       rw [if_pos c45] at H
       have c45b0 : decide (0 < a0_5) = true := decide_eq_true c45
       clear c45
       simp only [Option.some.injEq, Prod.mk.injEq] at H
       obtain ⟨rfl, rfl, rfl, rfl, rfl, rfl, rfl, rfl, rfl, rfl⟩ := H
      rotate_left
      focus
       rw [if_neg c45] at H
       have c45b0 : decide (0 < a0_5) = false := decide_eq_false c45
       clear c45
       simp only [Option.some.injEq, Prod.mk.injEq] at H
       obtain ⟨rfl, rfl, rfl, rfl, rfl, rfl, rfl, rfl, rfl, rfl⟩ := H
      rotate_left
     rotate_left 2
    rotate_left 3
   rotate_left 4
  rotate_left 5
 rotate_left 6
 all_goals
  go_enter Try.func25, Try.ntmps25
 iterate 3
  focus
   go_wp2_with (first | ((with_reducible refine gate_dst (N := 4) rfl ?_); refine box_event ?hg (N := 4) ?hd (cs := #[.int .i64 a0_0, .int .i64 a0_1, .int .i64 a0_2, .int .i64 a0_3, .int .i64 a0_4, .int .i64 a0_5, .bool a0_6, .bool a0_7, .slice A0_8 l0_8.length c0_8]) (t := 37) ?hr ?_; (case hd => rfl); (case hg => rfl); (case hr => first | (go_simp; done) | (go_simp; rfl)); intro gb980 hg w981 hbox hb; have n0_ := mk_ (below_step (ub_ HB.out) hb); have BK322 := mk_ (hbox); have GW322 := mk_ ((by rw [hg]; exact (below_size (ub_ HB.out)) : w.heap.size ≤ gb980)); have GE322 := ge_ ((by rw [hg]; exact (below_size (ub_ HB.out)) : w.heap.size ≤ gb980)); replace HB := n0_; clear n0_; clear hb hbox hg) | ((with_reducible refine gate_dst (N := 8) rfl ?_); refine box_event ?hg (N := 8) ?hd (cs := #[.int .i64 0, .int .i64 0, .int .i64 0, .int .i64 0, .int .i64 0, .int .i64 0, .bool false, .bool false, .slice none 0 0]) (t := 37) ?hr ?_; (case hd => rfl); (case hg => rfl); (case hr => first | (go_simp; done) | (go_simp; rfl)); intro gb1020 hg w1021 hbox hb; have n0_ := mk_ (blk_below (u_ BK322.out) hb); have n1_ := mk_ (below_step (us_ HB.out) hb); have BK323 := mk_ (hbox); have GW323 := mk_ ((by rw [hg]; exact (below_size (us_ HB.out)) : w.heap.size ≤ gb1020)); have GE323 := ge_ ((by rw [hg]; exact (below_size (us_ HB.out)) : w.heap.size ≤ gb1020)); have NB322_323 := nq_ ((by rw [hg]; exact Nat.ne_of_lt (blk_lt (u_ BK322.out)) : gb980 ≠ gb1020)); have NB323_322 := nq_ ((by rw [hg]; exact Nat.ne_of_gt (blk_lt (u_ BK322.out)) : gb1020 ≠ gb980)); replace BK322 := n0_; replace HB := n1_; clear n0_ n1_; clear hb hbox hg; have hnb1022 := NB322_323.out; have hnc1022 := NB323_322.out; obtain ⟨_, _, _, _, _, _, _, _, _, _, _, _, _, _, _, _, _, _⟩ := cells9_ BK322.out) | ((with_reducible refine gate_callee (f := 68) rfl ?_); refine goesL_ (some 13) rfl rfl Try.func68 (by kernel_rfl) rfl #[.agg #[.int .i64 a0_0, .int .i64 a0_1, .int .i64 a0_2, .int .i64 a0_3, .int .i64 a0_4, .int .i64 a0_5, .bool a0_6, .bool a0_7, .slice A0_8 l0_8.length c0_8]] rfl (by (try simp only [lm_, lo_, ln_]); try rfl) ?_; (with_reducible refine (spec_PacketBytes.calls k a0_0 a0_1 a0_2 a0_3 a0_4 a0_5 a0_6 a0_7 _ _ l0_8 t324 _ ?side1 ?side2 A5.out).mono ?_); (case side1 => repeat (first | exact (Kd.C_below HR0_8.out HB.out) | (with_reducible refine Kd.C_alloc ?_ _) | (with_reducible refine Kd.C_drewN ?_ _) | (with_reducible refine Kd.C_drew ?_))); (case side2 => exact HC0_8.out); rintro e w1060 ⟨v1061, rfl, ho1062, hb⟩; refine ⟨_, rfl, ?_⟩; have HO326 := mk_ (Kd.R_lower ho1062 (below_size (us_ HB.out))); replace BK322 := mk_ (blk_below (u_ BK322.out) hb); replace BK323 := mk_ (blk_below (u_ BK323.out) hb); replace HB := mk_ (below_step (us_ HB.out) hb); obtain ⟨Ao1063, co1063, eo1063⟩ := Kd.R_slice HO326.out; subst eo1063; have q1064 : ((ji6) : Int) ≤ ((t324.length : Int) : Int) := of_decide_eq_true (by first | (with_reducible assumption) | assumption); obtain ⟨i1065, hi1065, _, hsz1064, _⟩ := info_parts info5; have hroom1064 : t324.length ≤ co1063 := (Kd.R_reads' HO326.out).2.1; have hC1064 : Kd.C (Kd.int .u8) _ Ao1063 t324.length t324 := (Kd.R_reads' HO326.out).2.2; have hcut1064 := cut_to (P := Try.prog) 22 5 .i64 Try.underlying22 hi1065 Ao1063 t324.length co1063 (ji6) (of_decide_eq_true (by first | (with_reducible assumption) | assumption)) q1064 hroom1064; have hr1064 := Kd.C_take (m := ((ji6) : Int).toNat) hC1064 (by omega); have hy1064 : y327.length = ((ji6) : Int).toNat := (by rw [Ny327.out, List.length_take]; omega); rw [← Ny327.out] at hr1064; rw [← hy1064] at hcut1064; have HR1066 := mk_ hr1064; have HC1066 := mk_ (show y327.length ≤ co1063 from by omega); clear hr1064 hC1064 hroom1064 hi1065 hsz1064; have KY1064 := mk_ hy1064; clear hy1064; have KL1064 := mk_ (show ((ji6) : Int).toNat ≤ t324.length from by omega); replace q1064 := eq_true q1064) | ((with_reducible refine gate_callee (f := 61) rfl ?_); refine goesL_ (some 22) rfl rfl Try.func61 (by kernel_rfl) rfl #[.agg #[.int .i64 a2, .int .i64 a3, .slice Ao1063 y327.length co1063]] rfl (by (try simp only [lm_, lo_, ln_]); try rfl) ?_; (with_reducible refine (spec_NoteBytes.calls k a2 a3 _ _ y327 t331 _ ?side1 ?side2 A9.out).mono ?_); (case side1 => repeat (first | exact (by repeat (first | (with_reducible exact HR1066.out) | (with_reducible refine Kd.C_alloc ?_ _) | (with_reducible refine Kd.C_drewN ?_ _) | (with_reducible refine Kd.C_drew ?_) | exact HR1066.out)) | (with_reducible refine Kd.C_alloc ?_ _) | (with_reducible refine Kd.C_drewN ?_ _) | (with_reducible refine Kd.C_drew ?_))); (case side2 => exact HC1066.out); rintro e w1100 ⟨v1101, rfl, ho1062, hb⟩; refine ⟨_, rfl, ?_⟩; have n0_ := mk_ (Kd.R_elder' (Kd.ur_ HO326.out) (Kd.R_base ho1062) hb); have HO333 := mk_ (Kd.R_lower (Kd.R_new' ho1062 (Kd.R_lt (Kd.ur_ HO326.out))) (below_size (us_ HB.out))); replace BK322 := mk_ (blk_below (u_ BK322.out) hb); replace BK323 := mk_ (blk_below (u_ BK323.out) hb); replace HR1066 := mk_ (Kd.C_below (by repeat (first | (with_reducible exact HR1066.out) | (with_reducible refine Kd.C_alloc ?_ _) | (with_reducible refine Kd.C_drewN ?_ _) | (with_reducible refine Kd.C_drew ?_) | exact HR1066.out)) hb); replace HB := mk_ (below_step (us_ HB.out) hb); replace HO326 := n0_; clear n0_; obtain ⟨_, _, _, _, _, _, _, _, _, _, _, _, _, _, _, _, _, _⟩ := cells9_ BK322.out) | ((with_reducible refine gate_callee (f := 60) rfl ?_); refine goesL_ (some 24) rfl rfl Try.func60 (by kernel_rfl) rfl #[.agg #[.int .i64 a0_0, .int .i64 a0_1, .int .i64 a0_2, .int .i64 a0_3, .int .i64 a0_4, .int .i64 a0_5, .bool a0_6, .bool a0_7, .slice A0_8 l0_8.length c0_8]] rfl (by (try simp only [lm_, lo_, ln_]); try rfl) ?_; (with_reducible refine (spec_PacketOk.calls a0_0 a0_1 a0_2 a0_3 a0_4 a0_5 a0_6 a0_7 _ _ l0_8 false _ ?side1 ?side2 A10.out).mono ?_); (case side1 => repeat (first | exact (Kd.C_below HR0_8.out HB.out) | (with_reducible refine Kd.C_alloc ?_ _) | (with_reducible refine Kd.C_drewN ?_ _) | (with_reducible refine Kd.C_drew ?_))); (case side2 => exact HC0_8.out); rintro e w1140 ⟨rfl, hb⟩; refine ⟨_, rfl, ?_⟩; replace HO326 := mk_ (Kd.R_below (Kd.ur_ HO326.out) hb); replace HO333 := mk_ (Kd.R_below (Kd.ur_ HO333.out) hb); replace BK322 := mk_ (blk_below (u_ BK322.out) hb); replace BK323 := mk_ (blk_below (u_ BK323.out) hb); replace HR1066 := mk_ (Kd.C_below (by repeat (first | (with_reducible exact HR1066.out) | (with_reducible refine Kd.C_alloc ?_ _) | (with_reducible refine Kd.C_drewN ?_ _) | (with_reducible refine Kd.C_drew ?_) | exact HR1066.out)) hb); replace HB := mk_ (below_step (us_ HB.out) hb); obtain ⟨_, _, _, _, _, _, _, _, _, _, _, _, _, _, _, _, _, _⟩ := cells9_ BK323.out) | ((with_reducible refine gate_callee (f := 60) rfl ?_); refine goesL_ (some 24) rfl rfl Try.func60 (by kernel_rfl) rfl #[.agg #[.int .i64 a0_0, .int .i64 a0_1, .int .i64 a0_2, .int .i64 a0_3, .int .i64 a0_4, .int .i64 a0_5, .bool a0_6, .bool a0_7, .slice A0_8 l0_8.length c0_8]] rfl (by (try simp only [lm_, lo_, ln_]); try rfl) ?_; (with_reducible refine (spec_PacketOk.calls a0_0 a0_1 a0_2 a0_3 a0_4 a0_5 a0_6 a0_7 _ _ l0_8 true _ ?side1 ?side2 A10.out).mono ?_); (case side1 => repeat (first | exact (Kd.C_below HR0_8.out HB.out) | (with_reducible refine Kd.C_alloc ?_ _) | (with_reducible refine Kd.C_drewN ?_ _) | (with_reducible refine Kd.C_drew ?_))); (case side2 => exact HC0_8.out); rintro e w1140 ⟨rfl, hb⟩; refine ⟨_, rfl, ?_⟩; replace HO326 := mk_ (Kd.R_below (Kd.ur_ HO326.out) hb); replace HO333 := mk_ (Kd.R_below (Kd.ur_ HO333.out) hb); replace BK322 := mk_ (blk_below (u_ BK322.out) hb); replace BK323 := mk_ (blk_below (u_ BK323.out) hb); replace HR1066 := mk_ (Kd.C_below (by repeat (first | (with_reducible exact HR1066.out) | (with_reducible refine Kd.C_alloc ?_ _) | (with_reducible refine Kd.C_drewN ?_ _) | (with_reducible refine Kd.C_drew ?_) | exact HR1066.out)) hb); replace HB := mk_ (below_step (us_ HB.out) hb)) | (go_at_call 53; (with_reducible refine (spec_l1In.calls a1 0 65535 false _ A12.out).mono ?_); rintro e w' ⟨rfl, ⟨nd, rfl⟩⟩; (try simp only [World.drewN_drewN]); (try (rw [drewN_self w1140]; generalize hq_ : World.drewN w1140 _ = w1140; have n0_ : Aside0 (Kd.R (Kd.int .u8) 5 w1140 w.heap.size (fun k_ => some k_ ≠ (v1101 : Value).ownBlock) (.slice Ao1063 t324.length co1063) t324) := ⟨by rw [← hq_]; exact (by (with_reducible repeat (first | apply Kd.R_alloc | apply Kd.R_drewN | apply Kd.R_drew)); exact Kd.R_mono HO326.out (fun _ hk => hk.2))⟩; have n1_ : Aside0 (Kd.R (Kd.int .u8) 5 w1140 w.heap.size (fun k_ => some k_ ≠ (.slice Ao1063 t324.length co1063 : Value).ownBlock) v1101 t331) := ⟨by rw [← hq_]; exact (by (with_reducible repeat (first | apply Kd.R_alloc | apply Kd.R_drewN | apply Kd.R_drew)); exact Kd.R_mono HO333.out (fun _ hk => hk.2))⟩; have n2_ : Aside0 (w1140.heap[gb980]? = some (.cells #[.int .i64 a0_0, .int .i64 a0_1, .int .i64 a0_2, .int .i64 a0_3, .int .i64 a0_4, .int .i64 a0_5, .bool a0_6, .bool a0_7, .slice A0_8 l0_8.length c0_8] 37 (0, 0))) := ⟨by rw [← hq_]; exact (u_ BK322.out)⟩; have n3_ : Aside0 (w1140.heap[gb1020]? = some (.cells #[.int .i64 0, .int .i64 0, .int .i64 0, .int .i64 0, .int .i64 0, .int .i64 0, .bool false, .bool false, .slice none 0 0] 37 (0, 0))) := ⟨by rw [← hq_]; exact (u_ BK323.out)⟩; have n4_ : Aside0 (Below w.heap.size w w1140) := ⟨by rw [← hq_]; exact (us_ HB.out)⟩; have n5_ : Aside0 (Kd.C (Kd.int .u8) w1140 Ao1063 y327.length y327) := ⟨by rw [← hq_]; exact (by repeat (first | (with_reducible exact HR1066.out) | (with_reducible refine Kd.C_alloc ?_ _) | (with_reducible refine Kd.C_drewN ?_ _) | (with_reducible refine Kd.C_drew ?_) | exact HR1066.out))⟩; clear HO326 HO333 BK322 BK323 HB HR1066 hq_; have HO326 := n0_; have HO333 := n1_; have BK322 := n2_; have BK323 := n3_; have HB := n4_; have HR1066 := n5_; clear n0_ n1_ n2_ n3_ n4_ n5_)); obtain ⟨_, _, _, _, _, _, _, _, _, _, _, _, _, _, _, _, _, _⟩ := cells9_ BK323.out) | (go_at_call 53; have hA_ := A12.out; (with_reducible refine (spec_l1In.calls a1 0 65535 true _ A12.out).mono ?_); rintro e w' ⟨rfl, ⟨nd, rfl⟩⟩; (try simp only [World.drewN_drewN]); (try (rw [drewN_self w1140]; generalize hq_ : World.drewN w1140 _ = w1140; have n0_ : Aside0 (Kd.R (Kd.int .u8) 5 w1140 w.heap.size (fun k_ => some k_ ≠ (v1101 : Value).ownBlock) (.slice Ao1063 t324.length co1063) t324) := ⟨by rw [← hq_]; exact (by (with_reducible repeat (first | apply Kd.R_alloc | apply Kd.R_drewN | apply Kd.R_drew)); exact Kd.R_mono HO326.out (fun _ hk => hk.2))⟩; have n1_ : Aside0 (Kd.R (Kd.int .u8) 5 w1140 w.heap.size (fun k_ => some k_ ≠ (.slice Ao1063 t324.length co1063 : Value).ownBlock) v1101 t331) := ⟨by rw [← hq_]; exact (by (with_reducible repeat (first | apply Kd.R_alloc | apply Kd.R_drewN | apply Kd.R_drew)); exact Kd.R_mono HO333.out (fun _ hk => hk.2))⟩; have n2_ : Aside0 (w1140.heap[gb980]? = some (.cells #[.int .i64 a0_0, .int .i64 a0_1, .int .i64 a0_2, .int .i64 a0_3, .int .i64 a0_4, .int .i64 a0_5, .bool a0_6, .bool a0_7, .slice A0_8 l0_8.length c0_8] 37 (0, 0))) := ⟨by rw [← hq_]; exact (u_ BK322.out)⟩; have n3_ : Aside0 (w1140.heap[gb1020]? = some (.cells #[.int .i64 0, .int .i64 0, .int .i64 0, .int .i64 0, .int .i64 0, .int .i64 0, .bool false, .bool false, .slice none 0 0] 37 (0, 0))) := ⟨by rw [← hq_]; exact (u_ BK323.out)⟩; have n4_ : Aside0 (Below w.heap.size w w1140) := ⟨by rw [← hq_]; exact (us_ HB.out)⟩; have n5_ : Aside0 (Kd.C (Kd.int .u8) w1140 Ao1063 y327.length y327) := ⟨by rw [← hq_]; exact (by repeat (first | (with_reducible exact HR1066.out) | (with_reducible refine Kd.C_alloc ?_ _) | (with_reducible refine Kd.C_drewN ?_ _) | (with_reducible refine Kd.C_drew ?_) | exact HR1066.out))⟩; clear HO326 HO333 BK322 BK323 HB HR1066 hq_; have HO326 := n0_; have HO333 := n1_; have BK322 := n2_; have BK323 := n3_; have HB := n4_; have HR1066 := n5_; clear n0_ n1_ n2_ n3_ n4_ n5_)); clear hA_ A12) | (go_at_call 53; have hA_ := A14.out; (with_reducible refine (spec_l1In.calls a2 3 6 false _ A14.out).mono ?_); rintro e w' ⟨rfl, ⟨nd, rfl⟩⟩; (try simp only [World.drewN_drewN]); (try (rw [drewN_self w1140]; generalize hq_ : World.drewN w1140 _ = w1140; have n0_ : Aside0 (Kd.R (Kd.int .u8) 5 w1140 w.heap.size (fun k_ => some k_ ≠ (v1101 : Value).ownBlock) (.slice Ao1063 t324.length co1063) t324) := ⟨by rw [← hq_]; exact (by (with_reducible repeat (first | apply Kd.R_alloc | apply Kd.R_drewN | apply Kd.R_drew)); exact Kd.R_mono HO326.out (fun _ hk => hk.2))⟩; have n1_ : Aside0 (Kd.R (Kd.int .u8) 5 w1140 w.heap.size (fun k_ => some k_ ≠ (.slice Ao1063 t324.length co1063 : Value).ownBlock) v1101 t331) := ⟨by rw [← hq_]; exact (by (with_reducible repeat (first | apply Kd.R_alloc | apply Kd.R_drewN | apply Kd.R_drew)); exact Kd.R_mono HO333.out (fun _ hk => hk.2))⟩; have n2_ : Aside0 (w1140.heap[gb980]? = some (.cells #[.int .i64 a0_0, .int .i64 a0_1, .int .i64 a0_2, .int .i64 a0_3, .int .i64 a0_4, .int .i64 a0_5, .bool a0_6, .bool a0_7, .slice A0_8 l0_8.length c0_8] 37 (0, 0))) := ⟨by rw [← hq_]; exact (u_ BK322.out)⟩; have n3_ : Aside0 (w1140.heap[gb1020]? = some (.cells #[.int .i64 0, .int .i64 0, .int .i64 0, .int .i64 0, .int .i64 0, .int .i64 0, .bool false, .bool false, .slice none 0 0] 37 (0, 0))) := ⟨by rw [← hq_]; exact (u_ BK323.out)⟩; have n4_ : Aside0 (Below w.heap.size w w1140) := ⟨by rw [← hq_]; exact (us_ HB.out)⟩; have n5_ : Aside0 (Kd.C (Kd.int .u8) w1140 Ao1063 y327.length y327) := ⟨by rw [← hq_]; exact (by repeat (first | (with_reducible exact HR1066.out) | (with_reducible refine Kd.C_alloc ?_ _) | (with_reducible refine Kd.C_drewN ?_ _) | (with_reducible refine Kd.C_drew ?_) | exact HR1066.out))⟩; clear HO326 HO333 BK322 BK323 HB HR1066 hq_; have HO326 := n0_; have HO333 := n1_; have BK322 := n2_; have BK323 := n3_; have HB := n4_; have HR1066 := n5_; clear n0_ n1_ n2_ n3_ n4_ n5_)); obtain ⟨_, _, _, _, _, _, _, _, _, _, _, _, _, _, _, _, _, _⟩ := cells9_ BK323.out; clear hA_ A14))
   refine bodyPost_ret (results_ct rfl _ _ gb1020 37 #[.int .i64 0, .int .i64 0, .int .i64 0, .int .i64 0, .int .i64 0, .int .i64 0, .bool false, .bool false, .slice none 0 0] (0, 0) _ rfl (by (with_reducible repeat (first | refine bn_ ?_ _ | refine bw_ ?_ | refine ba_ ?_ _)); with_reducible apply blk_put9; (with_reducible repeat (first | refine bn_ ?_ _ | refine bw_ ?_ | refine ba_ ?_ _)); exact BK323.out) Try.underlying37 rfl (by kernel_rfl)) rfl ?_
   exact ⟨_, by first | rfl | (simp [errW_none, errW_some] <;> rfl) | (simp only [← hji6]; first | rfl | (simp [errW_none, errW_some] <;> rfl)) | (simp [*, errW_none, errW_some] <;> rfl), by first | exact Kd.R_nil _ _ _ _ _ | exact Kd.N_nil _ _ _ _ _ | exact Kd.V_nil _ _ _ _ _ | exact Kd.Q_nil _ _ _ _ _ | exact Kd.S_nil _ _ _ _ _, us_ HB.out⟩
 ·go_wp2_with (first | ((with_reducible refine gate_dst (N := 4) rfl ?_); refine box_event ?hg (N := 4) ?hd (cs := #[.int .i64 a0_0, .int .i64 a0_1, .int .i64 a0_2, .int .i64 a0_3, .int .i64 a0_4, .int .i64 a0_5, .bool a0_6, .bool a0_7, .slice A0_8 l0_8.length c0_8]) (t := 37) ?hr ?_; (case hd => rfl); (case hg => rfl); (case hr => first | (go_simp; done) | (go_simp; rfl)); intro gb980 hg w981 hbox hb; have n0_ := mk_ (below_step (ub_ HB.out) hb); have BK322 := mk_ (hbox); have GW322 := mk_ ((by rw [hg]; exact (below_size (ub_ HB.out)) : w.heap.size ≤ gb980)); have GE322 := ge_ ((by rw [hg]; exact (below_size (ub_ HB.out)) : w.heap.size ≤ gb980)); replace HB := n0_; clear n0_; clear hb hbox hg) | ((with_reducible refine gate_dst (N := 8) rfl ?_); refine box_event ?hg (N := 8) ?hd (cs := #[.int .i64 0, .int .i64 0, .int .i64 0, .int .i64 0, .int .i64 0, .int .i64 0, .bool false, .bool false, .slice none 0 0]) (t := 37) ?hr ?_; (case hd => rfl); (case hg => rfl); (case hr => first | (go_simp; done) | (go_simp; rfl)); intro gb1020 hg w1021 hbox hb; have n0_ := mk_ (blk_below (u_ BK322.out) hb); have n1_ := mk_ (below_step (us_ HB.out) hb); have BK323 := mk_ (hbox); have GW323 := mk_ ((by rw [hg]; exact (below_size (us_ HB.out)) : w.heap.size ≤ gb1020)); have GE323 := ge_ ((by rw [hg]; exact (below_size (us_ HB.out)) : w.heap.size ≤ gb1020)); have NB322_323 := nq_ ((by rw [hg]; exact Nat.ne_of_lt (blk_lt (u_ BK322.out)) : gb980 ≠ gb1020)); have NB323_322 := nq_ ((by rw [hg]; exact Nat.ne_of_gt (blk_lt (u_ BK322.out)) : gb1020 ≠ gb980)); replace BK322 := n0_; replace HB := n1_; clear n0_ n1_; clear hb hbox hg; have hnb1022 := NB322_323.out; have hnc1022 := NB323_322.out; obtain ⟨hcz1023_0, hcz1023_1, hcz1023_2, hcz1023_3, hcz1023_4, hcz1023_5, hcz1023_6, hcz1023_7, hcz1023_8, hfz1023_0, hfz1023_1, hfz1023_2, hfz1023_3, hfz1023_4, hfz1023_5, hfz1023_6, hfz1023_7, hfz1023_8⟩ := cells9_ BK322.out) | ((with_reducible refine gate_callee (f := 68) rfl ?_); refine goesL_ (some 13) rfl rfl Try.func68 (by kernel_rfl) rfl #[.agg #[.int .i64 a0_0, .int .i64 a0_1, .int .i64 a0_2, .int .i64 a0_3, .int .i64 a0_4, .int .i64 a0_5, .bool a0_6, .bool a0_7, .slice A0_8 l0_8.length c0_8]] rfl (by (try simp only [lm_, lo_, ln_]); try rfl) ?_; (with_reducible refine (spec_PacketBytes.calls k a0_0 a0_1 a0_2 a0_3 a0_4 a0_5 a0_6 a0_7 _ _ l0_8 t324 _ ?side1 ?side2 A5.out).mono ?_); (case side1 => repeat (first | exact (Kd.C_below HR0_8.out HB.out) | (with_reducible refine Kd.C_alloc ?_ _) | (with_reducible refine Kd.C_drewN ?_ _) | (with_reducible refine Kd.C_drew ?_))); (case side2 => exact HC0_8.out); rintro e w1060 ⟨v1061, rfl, ho1062, hb⟩; refine ⟨_, rfl, ?_⟩; have HO326 := mk_ (Kd.R_lower ho1062 (below_size (us_ HB.out))); replace BK322 := mk_ (blk_below (u_ BK322.out) hb); replace BK323 := mk_ (blk_below (u_ BK323.out) hb); replace HB := mk_ (below_step (us_ HB.out) hb); obtain ⟨Ao1063, co1063, eo1063⟩ := Kd.R_slice HO326.out; subst eo1063; have q1064 : ((ji6) : Int) ≤ ((t324.length : Int) : Int) := of_decide_eq_true (by first | (with_reducible assumption) | assumption); obtain ⟨i1065, hi1065, _, hsz1064, _⟩ := info_parts info5; have hroom1064 : t324.length ≤ co1063 := (Kd.R_reads' HO326.out).2.1; have hC1064 : Kd.C (Kd.int .u8) _ Ao1063 t324.length t324 := (Kd.R_reads' HO326.out).2.2; have hcut1064 := cut_to (P := Try.prog) 22 5 .i64 Try.underlying22 hi1065 Ao1063 t324.length co1063 (ji6) (of_decide_eq_true (by first | (with_reducible assumption) | assumption)) q1064 hroom1064; have hr1064 := Kd.C_take (m := ((ji6) : Int).toNat) hC1064 (by omega); have hy1064 : y327.length = ((ji6) : Int).toNat := (by rw [Ny327.out, List.length_take]; omega); rw [← Ny327.out] at hr1064; rw [← hy1064] at hcut1064; have HR1066 := mk_ hr1064; have HC1066 := mk_ (show y327.length ≤ co1063 from by omega); clear hr1064 hC1064 hroom1064 hi1065 hsz1064; have KY1064 := mk_ hy1064; clear hy1064; have KL1064 := mk_ (show ((ji6) : Int).toNat ≤ t324.length from by omega); replace q1064 := eq_true q1064) | ((with_reducible refine gate_callee (f := 61) rfl ?_); refine goesL_ (some 22) rfl rfl Try.func61 (by kernel_rfl) rfl #[.agg #[.int .i64 a2, .int .i64 a3, .slice Ao1063 y327.length co1063]] rfl (by (try simp only [lm_, lo_, ln_]); try rfl) ?_; (with_reducible refine (spec_NoteBytes.calls k a2 a3 _ _ y327 t331 _ ?side1 ?side2 A9.out).mono ?_); (case side1 => repeat (first | exact (by repeat (first | (with_reducible exact HR1066.out) | (with_reducible refine Kd.C_alloc ?_ _) | (with_reducible refine Kd.C_drewN ?_ _) | (with_reducible refine Kd.C_drew ?_) | exact HR1066.out)) | (with_reducible refine Kd.C_alloc ?_ _) | (with_reducible refine Kd.C_drewN ?_ _) | (with_reducible refine Kd.C_drew ?_))); (case side2 => exact HC1066.out); rintro e w1100 ⟨v1101, rfl, ho1062, hb⟩; refine ⟨_, rfl, ?_⟩; have n0_ := mk_ (Kd.R_elder' (Kd.ur_ HO326.out) (Kd.R_base ho1062) hb); have HO333 := mk_ (Kd.R_lower (Kd.R_new' ho1062 (Kd.R_lt (Kd.ur_ HO326.out))) (below_size (us_ HB.out))); replace BK322 := mk_ (blk_below (u_ BK322.out) hb); replace BK323 := mk_ (blk_below (u_ BK323.out) hb); replace HR1066 := mk_ (Kd.C_below (by repeat (first | (with_reducible exact HR1066.out) | (with_reducible refine Kd.C_alloc ?_ _) | (with_reducible refine Kd.C_drewN ?_ _) | (with_reducible refine Kd.C_drew ?_) | exact HR1066.out)) hb); replace HB := mk_ (below_step (us_ HB.out) hb); replace HO326 := n0_; clear n0_; obtain ⟨_, _, _, _, _, _, _, _, _, _, _, _, _, _, _, _, _, _⟩ := cells9_ BK322.out) | ((with_reducible refine gate_callee (f := 60) rfl ?_); refine goesL_ (some 24) rfl rfl Try.func60 (by kernel_rfl) rfl #[.agg #[.int .i64 a0_0, .int .i64 a0_1, .int .i64 a0_2, .int .i64 a0_3, .int .i64 a0_4, .int .i64 a0_5, .bool a0_6, .bool a0_7, .slice A0_8 l0_8.length c0_8]] rfl (by (try simp only [lm_, lo_, ln_]); try rfl) ?_; (with_reducible refine (spec_PacketOk.calls a0_0 a0_1 a0_2 a0_3 a0_4 a0_5 a0_6 a0_7 _ _ l0_8 true _ ?side1 ?side2 A10.out).mono ?_); (case side1 => repeat (first | exact (Kd.C_below HR0_8.out HB.out) | (with_reducible refine Kd.C_alloc ?_ _) | (with_reducible refine Kd.C_drewN ?_ _) | (with_reducible refine Kd.C_drew ?_))); (case side2 => exact HC0_8.out); rintro e w1140 ⟨rfl, hb⟩; refine ⟨_, rfl, ?_⟩; replace HO326 := mk_ (Kd.R_below (Kd.ur_ HO326.out) hb); replace HO333 := mk_ (Kd.R_below (Kd.ur_ HO333.out) hb); replace BK322 := mk_ (blk_below (u_ BK322.out) hb); replace BK323 := mk_ (blk_below (u_ BK323.out) hb); replace HR1066 := mk_ (Kd.C_below (by repeat (first | (with_reducible exact HR1066.out) | (with_reducible refine Kd.C_alloc ?_ _) | (with_reducible refine Kd.C_drewN ?_ _) | (with_reducible refine Kd.C_drew ?_) | exact HR1066.out)) hb); replace HB := mk_ (below_step (us_ HB.out) hb)) | (go_at_call 53; have hA_ := A12.out; (with_reducible refine (spec_l1In.calls a1 0 65535 true _ A12.out).mono ?_); rintro e w' ⟨rfl, ⟨nd, rfl⟩⟩; (try simp only [World.drewN_drewN]); (try (rw [drewN_self w1140]; generalize hq_ : World.drewN w1140 _ = w1140; have n0_ : Aside0 (Kd.R (Kd.int .u8) 5 w1140 w.heap.size (fun k_ => some k_ ≠ (v1101 : Value).ownBlock) (.slice Ao1063 t324.length co1063) t324) := ⟨by rw [← hq_]; exact (by (with_reducible repeat (first | apply Kd.R_alloc | apply Kd.R_drewN | apply Kd.R_drew)); exact Kd.R_mono HO326.out (fun _ hk => hk.2))⟩; have n1_ : Aside0 (Kd.R (Kd.int .u8) 5 w1140 w.heap.size (fun k_ => some k_ ≠ (.slice Ao1063 t324.length co1063 : Value).ownBlock) v1101 t331) := ⟨by rw [← hq_]; exact (by (with_reducible repeat (first | apply Kd.R_alloc | apply Kd.R_drewN | apply Kd.R_drew)); exact Kd.R_mono HO333.out (fun _ hk => hk.2))⟩; have n2_ : Aside0 (w1140.heap[gb980]? = some (.cells #[.int .i64 a0_0, .int .i64 a0_1, .int .i64 a0_2, .int .i64 a0_3, .int .i64 a0_4, .int .i64 a0_5, .bool a0_6, .bool a0_7, .slice A0_8 l0_8.length c0_8] 37 (0, 0))) := ⟨by rw [← hq_]; exact (u_ BK322.out)⟩; have n3_ : Aside0 (w1140.heap[gb1020]? = some (.cells #[.int .i64 0, .int .i64 0, .int .i64 0, .int .i64 0, .int .i64 0, .int .i64 0, .bool false, .bool false, .slice none 0 0] 37 (0, 0))) := ⟨by rw [← hq_]; exact (u_ BK323.out)⟩; have n4_ : Aside0 (Below w.heap.size w w1140) := ⟨by rw [← hq_]; exact (us_ HB.out)⟩; have n5_ : Aside0 (Kd.C (Kd.int .u8) w1140 Ao1063 y327.length y327) := ⟨by rw [← hq_]; exact (by repeat (first | (with_reducible exact HR1066.out) | (with_reducible refine Kd.C_alloc ?_ _) | (with_reducible refine Kd.C_drewN ?_ _) | (with_reducible refine Kd.C_drew ?_) | exact HR1066.out))⟩; clear HO326 HO333 BK322 BK323 HB HR1066 hq_; have HO326 := n0_; have HO333 := n1_; have BK322 := n2_; have BK323 := n3_; have HB := n4_; have HR1066 := n5_; clear n0_ n1_ n2_ n3_ n4_ n5_)); clear hA_ A12) | (go_at_call 53; have hA_ := A14.out; (with_reducible refine (spec_l1In.calls a2 3 6 true _ A14.out).mono ?_); rintro e w' ⟨rfl, ⟨nd, rfl⟩⟩; (try simp only [World.drewN_drewN]); (try (rw [drewN_self w1140]; generalize hq_ : World.drewN w1140 _ = w1140; have n0_ : Aside0 (Kd.R (Kd.int .u8) 5 w1140 w.heap.size (fun k_ => some k_ ≠ (v1101 : Value).ownBlock) (.slice Ao1063 t324.length co1063) t324) := ⟨by rw [← hq_]; exact (by (with_reducible repeat (first | apply Kd.R_alloc | apply Kd.R_drewN | apply Kd.R_drew)); exact Kd.R_mono HO326.out (fun _ hk => hk.2))⟩; have n1_ : Aside0 (Kd.R (Kd.int .u8) 5 w1140 w.heap.size (fun k_ => some k_ ≠ (.slice Ao1063 t324.length co1063 : Value).ownBlock) v1101 t331) := ⟨by rw [← hq_]; exact (by (with_reducible repeat (first | apply Kd.R_alloc | apply Kd.R_drewN | apply Kd.R_drew)); exact Kd.R_mono HO333.out (fun _ hk => hk.2))⟩; have n2_ : Aside0 (w1140.heap[gb980]? = some (.cells #[.int .i64 a0_0, .int .i64 a0_1, .int .i64 a0_2, .int .i64 a0_3, .int .i64 a0_4, .int .i64 a0_5, .bool a0_6, .bool a0_7, .slice A0_8 l0_8.length c0_8] 37 (0, 0))) := ⟨by rw [← hq_]; exact (u_ BK322.out)⟩; have n3_ : Aside0 (w1140.heap[gb1020]? = some (.cells #[.int .i64 0, .int .i64 0, .int .i64 0, .int .i64 0, .int .i64 0, .int .i64 0, .bool false, .bool false, .slice none 0 0] 37 (0, 0))) := ⟨by rw [← hq_]; exact (u_ BK323.out)⟩; have n4_ : Aside0 (Below w.heap.size w w1140) := ⟨by rw [← hq_]; exact (us_ HB.out)⟩; have n5_ : Aside0 (Kd.C (Kd.int .u8) w1140 Ao1063 y327.length y327) := ⟨by rw [← hq_]; exact (by repeat (first | (with_reducible exact HR1066.out) | (with_reducible refine Kd.C_alloc ?_ _) | (with_reducible refine Kd.C_drewN ?_ _) | (with_reducible refine Kd.C_drew ?_) | exact HR1066.out))⟩; clear HO326 HO333 BK322 BK323 HB HR1066 hq_; have HO326 := n0_; have HO333 := n1_; have BK322 := n2_; have BK323 := n3_; have HB := n4_; have HR1066 := n5_; clear n0_ n1_ n2_ n3_ n4_ n5_)); obtain ⟨Ao1220, co1220, eo1220⟩ := Kd.R_slice HO333.out; subst eo1220; obtain ⟨_, _, _, _, _, _, _, _, _, _, _, _, _, _, _, _, _, _⟩ := cells9_ BK323.out; clear hA_ A14))
  refine bodyPost_ret (results_ct rfl _ _ gb1020 37 #[.int .i64 0, .int .i64 0, .int .i64 0, .int .i64 0, .int .i64 0, .int .i64 0, .bool false, .bool false, .slice none 0 0] (0, 0) _ rfl (by (with_reducible repeat (first | refine bn_ ?_ _ | refine bw_ ?_ | refine ba_ ?_ _)); with_reducible apply blk_put9; (with_reducible repeat (first | refine bn_ ?_ _ | refine bw_ ?_ | refine ba_ ?_ _)); exact BK323.out) Try.underlying37 rfl (by kernel_rfl)) rfl ?_
  exact ⟨_, by first | rfl | (simp [errW_none, errW_some] <;> rfl) | (simp only [← hji6]; first | rfl | (simp [errW_none, errW_some] <;> rfl)) | (simp [*, errW_none, errW_some] <;> rfl), by first | exact Kd.R_nil _ _ _ _ _ | exact Kd.N_nil _ _ _ _ _ | exact Kd.V_nil _ _ _ _ _ | exact Kd.Q_nil _ _ _ _ _ | exact Kd.S_nil _ _ _ _ _, us_ HB.out⟩
 iterate 2
  focus
   go_wp2_with (first | ((with_reducible refine gate_dst (N := 4) rfl ?_); refine box_event ?hg (N := 4) ?hd (cs := #[.int .i64 a0_0, .int .i64 a0_1, .int .i64 a0_2, .int .i64 a0_3, .int .i64 a0_4, .int .i64 a0_5, .bool a0_6, .bool a0_7, .slice A0_8 l0_8.length c0_8]) (t := 37) ?hr ?_; (case hd => rfl); (case hg => rfl); (case hr => first | (go_simp; done) | (go_simp; rfl)); intro gb980 hg w981 hbox hb; have n0_ := mk_ (below_step (ub_ HB.out) hb); have BK322 := mk_ (hbox); have GW322 := mk_ ((by rw [hg]; exact (below_size (ub_ HB.out)) : w.heap.size ≤ gb980)); have GE322 := ge_ ((by rw [hg]; exact (below_size (ub_ HB.out)) : w.heap.size ≤ gb980)); replace HB := n0_; clear n0_; clear hb hbox hg) | ((with_reducible refine gate_dst (N := 8) rfl ?_); refine box_event ?hg (N := 8) ?hd (cs := #[.int .i64 0, .int .i64 0, .int .i64 0, .int .i64 0, .int .i64 0, .int .i64 0, .bool false, .bool false, .slice none 0 0]) (t := 37) ?hr ?_; (case hd => rfl); (case hg => rfl); (case hr => first | (go_simp; done) | (go_simp; rfl)); intro gb1020 hg w1021 hbox hb; have n0_ := mk_ (blk_below (u_ BK322.out) hb); have n1_ := mk_ (below_step (us_ HB.out) hb); have BK323 := mk_ (hbox); have GW323 := mk_ ((by rw [hg]; exact (below_size (us_ HB.out)) : w.heap.size ≤ gb1020)); have GE323 := ge_ ((by rw [hg]; exact (below_size (us_ HB.out)) : w.heap.size ≤ gb1020)); have NB322_323 := nq_ ((by rw [hg]; exact Nat.ne_of_lt (blk_lt (u_ BK322.out)) : gb980 ≠ gb1020)); have NB323_322 := nq_ ((by rw [hg]; exact Nat.ne_of_gt (blk_lt (u_ BK322.out)) : gb1020 ≠ gb980)); replace BK322 := n0_; replace HB := n1_; clear n0_ n1_; clear hb hbox hg; have hnb1022 := NB322_323.out; have hnc1022 := NB323_322.out; obtain ⟨_, _, _, _, _, _, _, _, _, _, _, _, _, _, _, _, _, _⟩ := cells9_ BK322.out) | ((with_reducible refine gate_callee (f := 68) rfl ?_); refine goesL_ (some 13) rfl rfl Try.func68 (by kernel_rfl) rfl #[.agg #[.int .i64 a0_0, .int .i64 a0_1, .int .i64 a0_2, .int .i64 a0_3, .int .i64 a0_4, .int .i64 a0_5, .bool a0_6, .bool a0_7, .slice A0_8 l0_8.length c0_8]] rfl (by (try simp only [lm_, lo_, ln_]); try rfl) ?_; (with_reducible refine (spec_PacketBytes.calls k a0_0 a0_1 a0_2 a0_3 a0_4 a0_5 a0_6 a0_7 _ _ l0_8 t324 _ ?side1 ?side2 A5.out).mono ?_); (case side1 => repeat (first | exact (Kd.C_below HR0_8.out HB.out) | (with_reducible refine Kd.C_alloc ?_ _) | (with_reducible refine Kd.C_drewN ?_ _) | (with_reducible refine Kd.C_drew ?_))); (case side2 => exact HC0_8.out); rintro e w1060 ⟨v1061, rfl, ho1062, hb⟩; refine ⟨_, rfl, ?_⟩; have HO326 := mk_ (Kd.R_lower ho1062 (below_size (us_ HB.out))); replace BK322 := mk_ (blk_below (u_ BK322.out) hb); replace BK323 := mk_ (blk_below (u_ BK323.out) hb); replace HB := mk_ (below_step (us_ HB.out) hb); obtain ⟨Ao1063, co1063, eo1063⟩ := Kd.R_slice HO326.out; subst eo1063; have q1064 : ((ji6) : Int) ≤ ((t324.length : Int) : Int) := of_decide_eq_true (by first | (with_reducible assumption) | assumption); obtain ⟨i1065, hi1065, _, hsz1064, _⟩ := info_parts info5; have hroom1064 : t324.length ≤ co1063 := (Kd.R_reads' HO326.out).2.1; have hC1064 : Kd.C (Kd.int .u8) _ Ao1063 t324.length t324 := (Kd.R_reads' HO326.out).2.2; have hcut1064 := cut_to (P := Try.prog) 22 5 .i64 Try.underlying22 hi1065 Ao1063 t324.length co1063 (ji6) (of_decide_eq_true (by first | (with_reducible assumption) | assumption)) q1064 hroom1064; have hr1064 := Kd.C_take (m := ((ji6) : Int).toNat) hC1064 (by omega); have hy1064 : y327.length = ((ji6) : Int).toNat := (by rw [Ny327.out, List.length_take]; omega); rw [← Ny327.out] at hr1064; rw [← hy1064] at hcut1064; have HR1066 := mk_ hr1064; have HC1066 := mk_ (show y327.length ≤ co1063 from by omega); clear hr1064 hC1064 hroom1064 hi1065 hsz1064; have KY1064 := mk_ hy1064; clear hy1064; have KL1064 := mk_ (show ((ji6) : Int).toNat ≤ t324.length from by omega); replace q1064 := eq_true q1064) | ((with_reducible refine gate_callee (f := 61) rfl ?_); refine goesL_ (some 22) rfl rfl Try.func61 (by kernel_rfl) rfl #[.agg #[.int .i64 a2, .int .i64 a3, .slice Ao1063 y327.length co1063]] rfl (by (try simp only [lm_, lo_, ln_]); try rfl) ?_; (with_reducible refine (spec_NoteBytes.calls k a2 a3 _ _ y327 t331 _ ?side1 ?side2 A9.out).mono ?_); (case side1 => repeat (first | exact (by repeat (first | (with_reducible exact HR1066.out) | (with_reducible refine Kd.C_alloc ?_ _) | (with_reducible refine Kd.C_drewN ?_ _) | (with_reducible refine Kd.C_drew ?_) | exact HR1066.out)) | (with_reducible refine Kd.C_alloc ?_ _) | (with_reducible refine Kd.C_drewN ?_ _) | (with_reducible refine Kd.C_drew ?_))); (case side2 => exact HC1066.out); rintro e w1100 ⟨v1101, rfl, ho1062, hb⟩; refine ⟨_, rfl, ?_⟩; have n0_ := mk_ (Kd.R_elder' (Kd.ur_ HO326.out) (Kd.R_base ho1062) hb); have HO333 := mk_ (Kd.R_lower (Kd.R_new' ho1062 (Kd.R_lt (Kd.ur_ HO326.out))) (below_size (us_ HB.out))); replace BK322 := mk_ (blk_below (u_ BK322.out) hb); replace BK323 := mk_ (blk_below (u_ BK323.out) hb); replace HR1066 := mk_ (Kd.C_below (by repeat (first | (with_reducible exact HR1066.out) | (with_reducible refine Kd.C_alloc ?_ _) | (with_reducible refine Kd.C_drewN ?_ _) | (with_reducible refine Kd.C_drew ?_) | exact HR1066.out)) hb); replace HB := mk_ (below_step (us_ HB.out) hb); replace HO326 := n0_; clear n0_; obtain ⟨_, _, _, _, _, _, _, _, _, _, _, _, _, _, _, _, _, _⟩ := cells9_ BK322.out) | ((with_reducible refine gate_callee (f := 60) rfl ?_); refine goesL_ (some 24) rfl rfl Try.func60 (by kernel_rfl) rfl #[.agg #[.int .i64 a0_0, .int .i64 a0_1, .int .i64 a0_2, .int .i64 a0_3, .int .i64 a0_4, .int .i64 a0_5, .bool a0_6, .bool a0_7, .slice A0_8 l0_8.length c0_8]] rfl (by (try simp only [lm_, lo_, ln_]); try rfl) ?_; (with_reducible refine (spec_PacketOk.calls a0_0 a0_1 a0_2 a0_3 a0_4 a0_5 a0_6 a0_7 _ _ l0_8 true _ ?side1 ?side2 A10.out).mono ?_); (case side1 => repeat (first | exact (Kd.C_below HR0_8.out HB.out) | (with_reducible refine Kd.C_alloc ?_ _) | (with_reducible refine Kd.C_drewN ?_ _) | (with_reducible refine Kd.C_drew ?_))); (case side2 => exact HC0_8.out); rintro e w1140 ⟨rfl, hb⟩; refine ⟨_, rfl, ?_⟩; replace HO326 := mk_ (Kd.R_below (Kd.ur_ HO326.out) hb); replace HO333 := mk_ (Kd.R_below (Kd.ur_ HO333.out) hb); replace BK322 := mk_ (blk_below (u_ BK322.out) hb); replace BK323 := mk_ (blk_below (u_ BK323.out) hb); replace HR1066 := mk_ (Kd.C_below (by repeat (first | (with_reducible exact HR1066.out) | (with_reducible refine Kd.C_alloc ?_ _) | (with_reducible refine Kd.C_drewN ?_ _) | (with_reducible refine Kd.C_drew ?_) | exact HR1066.out)) hb); replace HB := mk_ (below_step (us_ HB.out) hb)) | (go_at_call 53; have hA_ := A12.out; (with_reducible refine (spec_l1In.calls a1 0 65535 true _ A12.out).mono ?_); rintro e w' ⟨rfl, ⟨nd, rfl⟩⟩; (try simp only [World.drewN_drewN]); (try (rw [drewN_self w1140]; generalize hq_ : World.drewN w1140 _ = w1140; have n0_ : Aside0 (Kd.R (Kd.int .u8) 5 w1140 w.heap.size (fun k_ => some k_ ≠ (v1101 : Value).ownBlock) (.slice Ao1063 t324.length co1063) t324) := ⟨by rw [← hq_]; exact (by (with_reducible repeat (first | apply Kd.R_alloc | apply Kd.R_drewN | apply Kd.R_drew)); exact Kd.R_mono HO326.out (fun _ hk => hk.2))⟩; have n1_ : Aside0 (Kd.R (Kd.int .u8) 5 w1140 w.heap.size (fun k_ => some k_ ≠ (.slice Ao1063 t324.length co1063 : Value).ownBlock) v1101 t331) := ⟨by rw [← hq_]; exact (by (with_reducible repeat (first | apply Kd.R_alloc | apply Kd.R_drewN | apply Kd.R_drew)); exact Kd.R_mono HO333.out (fun _ hk => hk.2))⟩; have n2_ : Aside0 (w1140.heap[gb980]? = some (.cells #[.int .i64 a0_0, .int .i64 a0_1, .int .i64 a0_2, .int .i64 a0_3, .int .i64 a0_4, .int .i64 a0_5, .bool a0_6, .bool a0_7, .slice A0_8 l0_8.length c0_8] 37 (0, 0))) := ⟨by rw [← hq_]; exact (u_ BK322.out)⟩; have n3_ : Aside0 (w1140.heap[gb1020]? = some (.cells #[.int .i64 0, .int .i64 0, .int .i64 0, .int .i64 0, .int .i64 0, .int .i64 0, .bool false, .bool false, .slice none 0 0] 37 (0, 0))) := ⟨by rw [← hq_]; exact (u_ BK323.out)⟩; have n4_ : Aside0 (Below w.heap.size w w1140) := ⟨by rw [← hq_]; exact (us_ HB.out)⟩; have n5_ : Aside0 (Kd.C (Kd.int .u8) w1140 Ao1063 y327.length y327) := ⟨by rw [← hq_]; exact (by repeat (first | (with_reducible exact HR1066.out) | (with_reducible refine Kd.C_alloc ?_ _) | (with_reducible refine Kd.C_drewN ?_ _) | (with_reducible refine Kd.C_drew ?_) | exact HR1066.out))⟩; clear HO326 HO333 BK322 BK323 HB HR1066 hq_; have HO326 := n0_; have HO333 := n1_; have BK322 := n2_; have BK323 := n3_; have HB := n4_; have HR1066 := n5_; clear n0_ n1_ n2_ n3_ n4_ n5_)); clear hA_ A12) | (go_at_call 53; have hA_ := A14.out; (with_reducible refine (spec_l1In.calls a2 3 6 true _ A14.out).mono ?_); rintro e w' ⟨rfl, ⟨nd, rfl⟩⟩; (try simp only [World.drewN_drewN]); (try (rw [drewN_self w1140]; generalize hq_ : World.drewN w1140 _ = w1140; have n0_ : Aside0 (Kd.R (Kd.int .u8) 5 w1140 w.heap.size (fun k_ => some k_ ≠ (v1101 : Value).ownBlock) (.slice Ao1063 t324.length co1063) t324) := ⟨by rw [← hq_]; exact (by (with_reducible repeat (first | apply Kd.R_alloc | apply Kd.R_drewN | apply Kd.R_drew)); exact Kd.R_mono HO326.out (fun _ hk => hk.2))⟩; have n1_ : Aside0 (Kd.R (Kd.int .u8) 5 w1140 w.heap.size (fun k_ => some k_ ≠ (.slice Ao1063 t324.length co1063 : Value).ownBlock) v1101 t331) := ⟨by rw [← hq_]; exact (by (with_reducible repeat (first | apply Kd.R_alloc | apply Kd.R_drewN | apply Kd.R_drew)); exact Kd.R_mono HO333.out (fun _ hk => hk.2))⟩; have n2_ : Aside0 (w1140.heap[gb980]? = some (.cells #[.int .i64 a0_0, .int .i64 a0_1, .int .i64 a0_2, .int .i64 a0_3, .int .i64 a0_4, .int .i64 a0_5, .bool a0_6, .bool a0_7, .slice A0_8 l0_8.length c0_8] 37 (0, 0))) := ⟨by rw [← hq_]; exact (u_ BK322.out)⟩; have n3_ : Aside0 (w1140.heap[gb1020]? = some (.cells #[.int .i64 0, .int .i64 0, .int .i64 0, .int .i64 0, .int .i64 0, .int .i64 0, .bool false, .bool false, .slice none 0 0] 37 (0, 0))) := ⟨by rw [← hq_]; exact (u_ BK323.out)⟩; have n4_ : Aside0 (Below w.heap.size w w1140) := ⟨by rw [← hq_]; exact (us_ HB.out)⟩; have n5_ : Aside0 (Kd.C (Kd.int .u8) w1140 Ao1063 y327.length y327) := ⟨by rw [← hq_]; exact (by repeat (first | (with_reducible exact HR1066.out) | (with_reducible refine Kd.C_alloc ?_ _) | (with_reducible refine Kd.C_drewN ?_ _) | (with_reducible refine Kd.C_drew ?_) | exact HR1066.out))⟩; clear HO326 HO333 BK322 BK323 HB HR1066 hq_; have HO326 := n0_; have HO333 := n1_; have BK322 := n2_; have BK323 := n3_; have HB := n4_; have HR1066 := n5_; clear n0_ n1_ n2_ n3_ n4_ n5_)); obtain ⟨Ao1220, co1220, eo1220⟩ := Kd.R_slice HO333.out; subst eo1220; obtain ⟨hcz1221_0, hcz1221_1, hcz1221_2, hcz1221_3, hcz1221_4, hcz1221_5, hcz1221_6, hcz1221_7, hcz1221_8, hfz1221_0, hfz1221_1, hfz1221_2, hfz1221_3, hfz1221_4, hfz1221_5, hfz1221_6, hfz1221_7, hfz1221_8⟩ := cells9_ BK322.out; clear hA_ A14) | (go_at_call 69; (with_reducible refine (spec_NoteFault.calls k a0_0 a0_1 a0_2 a0_3 a0_4 a0_5 a0_6 a0_7 _ _ l0_8 true _ ?side1 ?side2 A29.out).mono ?_); (case side1 => repeat (first | exact (Kd.C_below HR0_8.out HB.out) | (with_reducible refine Kd.C_alloc ?_ _) | (with_reducible refine Kd.C_drewN ?_ _) | (with_reducible refine Kd.C_drew ?_))); (case side2 => exact HC0_8.out); rintro e w1260 ⟨rfl, hb⟩; replace HO326 := mk_ (Kd.R_below (Kd.ur_ HO326.out) hb); replace HO333 := mk_ (Kd.R_below (Kd.ur_ HO333.out) hb); replace BK322 := mk_ (blk_below (u_ BK322.out) hb); replace BK323 := mk_ (blk_below (u_ BK323.out) hb); replace HR1066 := mk_ (Kd.C_below (by repeat (first | (with_reducible exact HR1066.out) | (with_reducible refine Kd.C_alloc ?_ _) | (with_reducible refine Kd.C_drewN ?_ _) | (with_reducible refine Kd.C_drew ?_) | exact HR1066.out)) hb); replace HB := mk_ (below_step (us_ HB.out) hb); obtain ⟨_, _, _, _, _, _, _, _, _, _, _, _, _, _, _, _, _, _⟩ := cells9_ BK323.out) | (go_at_call 69; (with_reducible refine (spec_NoteFault.calls k a0_0 a0_1 a0_2 a0_3 a0_4 a0_5 a0_6 a0_7 _ _ l0_8 false _ ?side1 ?side2 A29.out).mono ?_); (case side1 => repeat (first | exact (Kd.C_below HR0_8.out HB.out) | (with_reducible refine Kd.C_alloc ?_ _) | (with_reducible refine Kd.C_drewN ?_ _) | (with_reducible refine Kd.C_drew ?_))); (case side2 => exact HC0_8.out); rintro e w1260 ⟨rfl, hb⟩; replace HO326 := mk_ (Kd.R_below (Kd.ur_ HO326.out) hb); replace HO333 := mk_ (Kd.R_below (Kd.ur_ HO333.out) hb); replace BK322 := mk_ (blk_below (u_ BK322.out) hb); replace BK323 := mk_ (blk_below (u_ BK323.out) hb); replace HR1066 := mk_ (Kd.C_below (by repeat (first | (with_reducible exact HR1066.out) | (with_reducible refine Kd.C_alloc ?_ _) | (with_reducible refine Kd.C_drewN ?_ _) | (with_reducible refine Kd.C_drew ?_) | exact HR1066.out)) hb); replace HB := mk_ (below_step (us_ HB.out) hb); obtain ⟨_, _, _, _, _, _, _, _, _, _, _, _, _, _, _, _, _, _⟩ := cells9_ BK322.out; obtain ⟨_, _, _, _, _, _, _, _, _, _, _, _, _, _, _, _, _, _⟩ := cells9_ BK323.out))
   refine bodyPost_ret (results_ct rfl _ _ gb1020 37 #[.int .i64 0, .int .i64 0, .int .i64 0, .int .i64 0, .int .i64 0, .int .i64 0, .bool false, .bool false, .slice none 0 0] (0, 0) _ rfl (by (with_reducible repeat (first | refine bn_ ?_ _ | refine bw_ ?_ | refine ba_ ?_ _)); with_reducible apply blk_put9; (with_reducible repeat (first | refine bn_ ?_ _ | refine bw_ ?_ | refine ba_ ?_ _)); exact BK323.out) Try.underlying37 rfl (by kernel_rfl)) rfl ?_
   exact ⟨_, by first | rfl | (simp [errW_none, errW_some] <;> rfl) | (simp only [← hji6]; first | rfl | (simp [errW_none, errW_some] <;> rfl)) | (simp [*, errW_none, errW_some] <;> rfl), by first | exact Kd.R_nil _ _ _ _ _ | exact Kd.N_nil _ _ _ _ _ | exact Kd.V_nil _ _ _ _ _ | exact Kd.Q_nil _ _ _ _ _ | exact Kd.S_nil _ _ _ _ _, us_ HB.out⟩
 ·go_wp2_with (first | ((with_reducible refine gate_dst (N := 4) rfl ?_); refine box_event ?hg (N := 4) ?hd (cs := #[.int .i64 a0_0, .int .i64 a0_1, .int .i64 a0_2, .int .i64 a0_3, .int .i64 a0_4, .int .i64 a0_5, .bool a0_6, .bool a0_7, .slice A0_8 l0_8.length c0_8]) (t := 37) ?hr ?_; (case hd => rfl); (case hg => rfl); (case hr => first | (go_simp; done) | (go_simp; rfl)); intro gb980 hg w981 hbox hb; have n0_ := mk_ (below_step (ub_ HB.out) hb); have BK322 := mk_ (hbox); have GW322 := mk_ ((by rw [hg]; exact (below_size (ub_ HB.out)) : w.heap.size ≤ gb980)); have GE322 := ge_ ((by rw [hg]; exact (below_size (ub_ HB.out)) : w.heap.size ≤ gb980)); replace HB := n0_; clear n0_; clear hb hbox hg) | ((with_reducible refine gate_dst (N := 8) rfl ?_); refine box_event ?hg (N := 8) ?hd (cs := #[.int .i64 0, .int .i64 0, .int .i64 0, .int .i64 0, .int .i64 0, .int .i64 0, .bool false, .bool false, .slice none 0 0]) (t := 37) ?hr ?_; (case hd => rfl); (case hg => rfl); (case hr => first | (go_simp; done) | (go_simp; rfl)); intro gb1020 hg w1021 hbox hb; have n0_ := mk_ (blk_below (u_ BK322.out) hb); have n1_ := mk_ (below_step (us_ HB.out) hb); have BK323 := mk_ (hbox); have GW323 := mk_ ((by rw [hg]; exact (below_size (us_ HB.out)) : w.heap.size ≤ gb1020)); have GE323 := ge_ ((by rw [hg]; exact (below_size (us_ HB.out)) : w.heap.size ≤ gb1020)); have NB322_323 := nq_ ((by rw [hg]; exact Nat.ne_of_lt (blk_lt (u_ BK322.out)) : gb980 ≠ gb1020)); have NB323_322 := nq_ ((by rw [hg]; exact Nat.ne_of_gt (blk_lt (u_ BK322.out)) : gb1020 ≠ gb980)); replace BK322 := n0_; replace HB := n1_; clear n0_ n1_; clear hb hbox hg; have hnb1022 := NB322_323.out; have hnc1022 := NB323_322.out; obtain ⟨_, _, _, _, _, _, _, _, _, _, _, _, _, _, _, _, _, _⟩ := cells9_ BK322.out) | ((with_reducible refine gate_callee (f := 68) rfl ?_); refine goesL_ (some 13) rfl rfl Try.func68 (by kernel_rfl) rfl #[.agg #[.int .i64 a0_0, .int .i64 a0_1, .int .i64 a0_2, .int .i64 a0_3, .int .i64 a0_4, .int .i64 a0_5, .bool a0_6, .bool a0_7, .slice A0_8 l0_8.length c0_8]] rfl (by (try simp only [lm_, lo_, ln_]); try rfl) ?_; (with_reducible refine (spec_PacketBytes.calls k a0_0 a0_1 a0_2 a0_3 a0_4 a0_5 a0_6 a0_7 _ _ l0_8 t324 _ ?side1 ?side2 A5.out).mono ?_); (case side1 => repeat (first | exact (Kd.C_below HR0_8.out HB.out) | (with_reducible refine Kd.C_alloc ?_ _) | (with_reducible refine Kd.C_drewN ?_ _) | (with_reducible refine Kd.C_drew ?_))); (case side2 => exact HC0_8.out); rintro e w1060 ⟨v1061, rfl, ho1062, hb⟩; refine ⟨_, rfl, ?_⟩; have HO326 := mk_ (Kd.R_lower ho1062 (below_size (us_ HB.out))); replace BK322 := mk_ (blk_below (u_ BK322.out) hb); replace BK323 := mk_ (blk_below (u_ BK323.out) hb); replace HB := mk_ (below_step (us_ HB.out) hb); obtain ⟨Ao1063, co1063, eo1063⟩ := Kd.R_slice HO326.out; subst eo1063; have q1064 : ((ji6) : Int) ≤ ((t324.length : Int) : Int) := of_decide_eq_true (by first | (with_reducible assumption) | assumption); obtain ⟨i1065, hi1065, _, hsz1064, _⟩ := info_parts info5; have hroom1064 : t324.length ≤ co1063 := (Kd.R_reads' HO326.out).2.1; have hC1064 : Kd.C (Kd.int .u8) _ Ao1063 t324.length t324 := (Kd.R_reads' HO326.out).2.2; have hcut1064 := cut_to (P := Try.prog) 22 5 .i64 Try.underlying22 hi1065 Ao1063 t324.length co1063 (ji6) (of_decide_eq_true (by first | (with_reducible assumption) | assumption)) q1064 hroom1064; have hr1064 := Kd.C_take (m := ((ji6) : Int).toNat) hC1064 (by omega); have hy1064 : y327.length = ((ji6) : Int).toNat := (by rw [Ny327.out, List.length_take]; omega); rw [← Ny327.out] at hr1064; rw [← hy1064] at hcut1064; have HR1066 := mk_ hr1064; have HC1066 := mk_ (show y327.length ≤ co1063 from by omega); clear hr1064 hC1064 hroom1064 hi1065 hsz1064; have KY1064 := mk_ hy1064; clear hy1064; have KL1064 := mk_ (show ((ji6) : Int).toNat ≤ t324.length from by omega); replace q1064 := eq_true q1064) | ((with_reducible refine gate_callee (f := 61) rfl ?_); refine goesL_ (some 22) rfl rfl Try.func61 (by kernel_rfl) rfl #[.agg #[.int .i64 a2, .int .i64 a3, .slice Ao1063 y327.length co1063]] rfl (by (try simp only [lm_, lo_, ln_]); try rfl) ?_; (with_reducible refine (spec_NoteBytes.calls k a2 a3 _ _ y327 t331 _ ?side1 ?side2 A9.out).mono ?_); (case side1 => repeat (first | exact (by repeat (first | (with_reducible exact HR1066.out) | (with_reducible refine Kd.C_alloc ?_ _) | (with_reducible refine Kd.C_drewN ?_ _) | (with_reducible refine Kd.C_drew ?_) | exact HR1066.out)) | (with_reducible refine Kd.C_alloc ?_ _) | (with_reducible refine Kd.C_drewN ?_ _) | (with_reducible refine Kd.C_drew ?_))); (case side2 => exact HC1066.out); rintro e w1100 ⟨v1101, rfl, ho1062, hb⟩; refine ⟨_, rfl, ?_⟩; have n0_ := mk_ (Kd.R_elder' (Kd.ur_ HO326.out) (Kd.R_base ho1062) hb); have HO333 := mk_ (Kd.R_lower (Kd.R_new' ho1062 (Kd.R_lt (Kd.ur_ HO326.out))) (below_size (us_ HB.out))); replace BK322 := mk_ (blk_below (u_ BK322.out) hb); replace BK323 := mk_ (blk_below (u_ BK323.out) hb); replace HR1066 := mk_ (Kd.C_below (by repeat (first | (with_reducible exact HR1066.out) | (with_reducible refine Kd.C_alloc ?_ _) | (with_reducible refine Kd.C_drewN ?_ _) | (with_reducible refine Kd.C_drew ?_) | exact HR1066.out)) hb); replace HB := mk_ (below_step (us_ HB.out) hb); replace HO326 := n0_; clear n0_; obtain ⟨_, _, _, _, _, _, _, _, _, _, _, _, _, _, _, _, _, _⟩ := cells9_ BK322.out) | ((with_reducible refine gate_callee (f := 60) rfl ?_); refine goesL_ (some 24) rfl rfl Try.func60 (by kernel_rfl) rfl #[.agg #[.int .i64 a0_0, .int .i64 a0_1, .int .i64 a0_2, .int .i64 a0_3, .int .i64 a0_4, .int .i64 a0_5, .bool a0_6, .bool a0_7, .slice A0_8 l0_8.length c0_8]] rfl (by (try simp only [lm_, lo_, ln_]); try rfl) ?_; (with_reducible refine (spec_PacketOk.calls a0_0 a0_1 a0_2 a0_3 a0_4 a0_5 a0_6 a0_7 _ _ l0_8 true _ ?side1 ?side2 A10.out).mono ?_); (case side1 => repeat (first | exact (Kd.C_below HR0_8.out HB.out) | (with_reducible refine Kd.C_alloc ?_ _) | (with_reducible refine Kd.C_drewN ?_ _) | (with_reducible refine Kd.C_drew ?_))); (case side2 => exact HC0_8.out); rintro e w1140 ⟨rfl, hb⟩; refine ⟨_, rfl, ?_⟩; replace HO326 := mk_ (Kd.R_below (Kd.ur_ HO326.out) hb); replace HO333 := mk_ (Kd.R_below (Kd.ur_ HO333.out) hb); replace BK322 := mk_ (blk_below (u_ BK322.out) hb); replace BK323 := mk_ (blk_below (u_ BK323.out) hb); replace HR1066 := mk_ (Kd.C_below (by repeat (first | (with_reducible exact HR1066.out) | (with_reducible refine Kd.C_alloc ?_ _) | (with_reducible refine Kd.C_drewN ?_ _) | (with_reducible refine Kd.C_drew ?_) | exact HR1066.out)) hb); replace HB := mk_ (below_step (us_ HB.out) hb)) | (go_at_call 53; have hA_ := A12.out; (with_reducible refine (spec_l1In.calls a1 0 65535 true _ A12.out).mono ?_); rintro e w' ⟨rfl, ⟨nd, rfl⟩⟩; (try simp only [World.drewN_drewN]); (try (rw [drewN_self w1140]; generalize hq_ : World.drewN w1140 _ = w1140; have n0_ : Aside0 (Kd.R (Kd.int .u8) 5 w1140 w.heap.size (fun k_ => some k_ ≠ (v1101 : Value).ownBlock) (.slice Ao1063 t324.length co1063) t324) := ⟨by rw [← hq_]; exact (by (with_reducible repeat (first | apply Kd.R_alloc | apply Kd.R_drewN | apply Kd.R_drew)); exact Kd.R_mono HO326.out (fun _ hk => hk.2))⟩; have n1_ : Aside0 (Kd.R (Kd.int .u8) 5 w1140 w.heap.size (fun k_ => some k_ ≠ (.slice Ao1063 t324.length co1063 : Value).ownBlock) v1101 t331) := ⟨by rw [← hq_]; exact (by (with_reducible repeat (first | apply Kd.R_alloc | apply Kd.R_drewN | apply Kd.R_drew)); exact Kd.R_mono HO333.out (fun _ hk => hk.2))⟩; have n2_ : Aside0 (w1140.heap[gb980]? = some (.cells #[.int .i64 a0_0, .int .i64 a0_1, .int .i64 a0_2, .int .i64 a0_3, .int .i64 a0_4, .int .i64 a0_5, .bool a0_6, .bool a0_7, .slice A0_8 l0_8.length c0_8] 37 (0, 0))) := ⟨by rw [← hq_]; exact (u_ BK322.out)⟩; have n3_ : Aside0 (w1140.heap[gb1020]? = some (.cells #[.int .i64 0, .int .i64 0, .int .i64 0, .int .i64 0, .int .i64 0, .int .i64 0, .bool false, .bool false, .slice none 0 0] 37 (0, 0))) := ⟨by rw [← hq_]; exact (u_ BK323.out)⟩; have n4_ : Aside0 (Below w.heap.size w w1140) := ⟨by rw [← hq_]; exact (us_ HB.out)⟩; have n5_ : Aside0 (Kd.C (Kd.int .u8) w1140 Ao1063 y327.length y327) := ⟨by rw [← hq_]; exact (by repeat (first | (with_reducible exact HR1066.out) | (with_reducible refine Kd.C_alloc ?_ _) | (with_reducible refine Kd.C_drewN ?_ _) | (with_reducible refine Kd.C_drew ?_) | exact HR1066.out))⟩; clear HO326 HO333 BK322 BK323 HB HR1066 hq_; have HO326 := n0_; have HO333 := n1_; have BK322 := n2_; have BK323 := n3_; have HB := n4_; have HR1066 := n5_; clear n0_ n1_ n2_ n3_ n4_ n5_)); clear hA_ A12) | (go_at_call 53; have hA_ := A14.out; (with_reducible refine (spec_l1In.calls a2 3 6 true _ A14.out).mono ?_); rintro e w' ⟨rfl, ⟨nd, rfl⟩⟩; (try simp only [World.drewN_drewN]); (try (rw [drewN_self w1140]; generalize hq_ : World.drewN w1140 _ = w1140; have n0_ : Aside0 (Kd.R (Kd.int .u8) 5 w1140 w.heap.size (fun k_ => some k_ ≠ (v1101 : Value).ownBlock) (.slice Ao1063 t324.length co1063) t324) := ⟨by rw [← hq_]; exact (by (with_reducible repeat (first | apply Kd.R_alloc | apply Kd.R_drewN | apply Kd.R_drew)); exact Kd.R_mono HO326.out (fun _ hk => hk.2))⟩; have n1_ : Aside0 (Kd.R (Kd.int .u8) 5 w1140 w.heap.size (fun k_ => some k_ ≠ (.slice Ao1063 t324.length co1063 : Value).ownBlock) v1101 t331) := ⟨by rw [← hq_]; exact (by (with_reducible repeat (first | apply Kd.R_alloc | apply Kd.R_drewN | apply Kd.R_drew)); exact Kd.R_mono HO333.out (fun _ hk => hk.2))⟩; have n2_ : Aside0 (w1140.heap[gb980]? = some (.cells #[.int .i64 a0_0, .int .i64 a0_1, .int .i64 a0_2, .int .i64 a0_3, .int .i64 a0_4, .int .i64 a0_5, .bool a0_6, .bool a0_7, .slice A0_8 l0_8.length c0_8] 37 (0, 0))) := ⟨by rw [← hq_]; exact (u_ BK322.out)⟩; have n3_ : Aside0 (w1140.heap[gb1020]? = some (.cells #[.int .i64 0, .int .i64 0, .int .i64 0, .int .i64 0, .int .i64 0, .int .i64 0, .bool false, .bool false, .slice none 0 0] 37 (0, 0))) := ⟨by rw [← hq_]; exact (u_ BK323.out)⟩; have n4_ : Aside0 (Below w.heap.size w w1140) := ⟨by rw [← hq_]; exact (us_ HB.out)⟩; have n5_ : Aside0 (Kd.C (Kd.int .u8) w1140 Ao1063 y327.length y327) := ⟨by rw [← hq_]; exact (by repeat (first | (with_reducible exact HR1066.out) | (with_reducible refine Kd.C_alloc ?_ _) | (with_reducible refine Kd.C_drewN ?_ _) | (with_reducible refine Kd.C_drew ?_) | exact HR1066.out))⟩; clear HO326 HO333 BK322 BK323 HB HR1066 hq_; have HO326 := n0_; have HO333 := n1_; have BK322 := n2_; have BK323 := n3_; have HB := n4_; have HR1066 := n5_; clear n0_ n1_ n2_ n3_ n4_ n5_)); obtain ⟨Ao1220, co1220, eo1220⟩ := Kd.R_slice HO333.out; subst eo1220; obtain ⟨_, _, _, _, _, _, _, _, _, _, _, _, _, _, _, _, _, _⟩ := cells9_ BK322.out; clear hA_ A14) | (go_at_call 69; (with_reducible refine (spec_NoteFault.calls k a0_0 a0_1 a0_2 a0_3 a0_4 a0_5 a0_6 a0_7 _ _ l0_8 false _ ?side1 ?side2 A29.out).mono ?_); (case side1 => repeat (first | exact (Kd.C_below HR0_8.out HB.out) | (with_reducible refine Kd.C_alloc ?_ _) | (with_reducible refine Kd.C_drewN ?_ _) | (with_reducible refine Kd.C_drew ?_))); (case side2 => exact HC0_8.out); rintro e w1260 ⟨rfl, hb⟩; replace HO326 := mk_ (Kd.R_below (Kd.ur_ HO326.out) hb); replace HO333 := mk_ (Kd.R_below (Kd.ur_ HO333.out) hb); replace BK322 := mk_ (blk_below (u_ BK322.out) hb); replace BK323 := mk_ (blk_below (u_ BK323.out) hb); replace HR1066 := mk_ (Kd.C_below (by repeat (first | (with_reducible exact HR1066.out) | (with_reducible refine Kd.C_alloc ?_ _) | (with_reducible refine Kd.C_drewN ?_ _) | (with_reducible refine Kd.C_drew ?_) | exact HR1066.out)) hb); replace HB := mk_ (below_step (us_ HB.out) hb); obtain ⟨_, _, _, _, _, _, _, _, _, _, _, _, _, _, _, _, _, _⟩ := cells9_ BK322.out; obtain ⟨_, _, _, _, _, _, _, _, _, _, _, _, _, _, _, _, _, _⟩ := cells9_ BK323.out))
  refine bodyPost_ret (results_ct rfl _ _ gb1020 37 #[.int .i64 a1, .int .i64 a0_0, .int .i64 1, .int .i64 64, .int .i64 a0_4, .int .i64 0, .bool false, .bool false, .slice Ao1220 t331.length co1220] (0, 0) _ rfl (by (with_reducible repeat (first | refine bn_ ?_ _ | refine bw_ ?_ | refine ba_ ?_ _)); with_reducible apply blk_put9; (with_reducible repeat (first | refine bn_ ?_ _ | refine bw_ ?_ | refine ba_ ?_ _)); exact BK323.out) Try.underlying37 rfl (by kernel_rfl)) rfl ?_
  exact ⟨_, by first | rfl | (simp [errW_none, errW_some] <;> rfl) | (simp only [← hji6]; first | rfl | (simp [errW_none, errW_some] <;> rfl)) | (simp [*, errW_none, errW_some] <;> rfl), by (with_reducible repeat (first | apply Kd.R_alloc | apply Kd.R_drewN | apply Kd.R_drew)); exact Kd.R_mono (Kd.R_far9 (g := gb1020) (Kd.R_types HO333.out BK323.out (by decide)) (fun _ hk => hk.2) _ _ _ _ _ _ _ _ _) (fun _ hk => trivial), us_ HB.out⟩

/-! ### laws_szByteS: function 70 -/
def laws_szByteS.f (l0 : List Int) (a1 : Int) : Option (Int) := if (wrap64 (a1 - (l0.length : Int))) < 0 then (some (-1)) else (some (wrap64 (a1 - (l0.length : Int))))
set_option maxHeartbeats 8000000 in
set_option maxRecDepth 100000 in
theorem laws_szByteS.calls (A0 : Option Addr) (c0 : Nat) (l0 : List Int) (a1 : Int) (r : Int) (w : World) (hr0 : Kd.C (Kd.int .u8) w A0 l0.length l0) (hc0 : l0.length ≤ c0) (h : laws_szByteS.f l0 a1 = some r) :
  Calls Try.prog 70 #[.slice A0 l0.length c0, .int .i64 a1] w fun e w' => e = .returned (.int .i64 r) ∧ Drawn0 w w' := by
 have HR0 := mk_ hr0
 have HC0 := mk_ hc0
 clear hr0 hc0
 have H := h
 unfold laws_szByteS.f at H
 clear h
 by_cases c3 : (wrap64 (a1 - (l0.length : Int))) < 0
 focus
  rw [if_pos c3] at H
  have c3b0 : decide ((wrap64 (a1 - (l0.length : Int))) < 0) = true := decide_eq_true c3
  clear c3
  obtain rfl := Option.some.inj H
 rotate_left
 focus
  rw [if_neg c3] at H
  have c3b0 : decide ((wrap64 (a1 - (l0.length : Int))) < 0) = false := decide_eq_false c3
  clear c3
  obtain rfl := Option.some.inj H
 rotate_left
 all_goals
  go_enter Try.func70, Try.ntmps70
  go_wp2
  go_ret
  exact ⟨by first | rfl | (simp; done) | (simp [*]; done), by repeat (first | exact Drawn0.refl _ | apply Drawn0.step)⟩

/-! ### laws_szPacket: function 26 -/
def laws_szPacket.f (a0_0 : Int) (a0_1 : Int) (a0_2 : Int) (a0_3 : Int) (a0_4 : Int) (a0_5 : Int) (a0_6 : Bool) (a0_7 : Bool) (l0_8 : List Int) (a1 : Int) : Option (Int) := (laws_szByteS.f l0_8 a1).bind fun t339 => (if t339 < 0 then (some (-1)) else (some t339))
set_option maxHeartbeats 8000000 in
set_option maxRecDepth 100000 in
theorem laws_szPacket.calls (a0_0 : Int) (a0_1 : Int) (a0_2 : Int) (a0_3 : Int) (a0_4 : Int) (a0_5 : Int) (a0_6 : Bool) (a0_7 : Bool) (A0_8 : Option Addr) (c0_8 : Nat) (l0_8 : List Int) (a1 : Int) (r : Int) (w : World) (hr0_8 : Kd.C (Kd.int .u8) w A0_8 l0_8.length l0_8) (hc0_8 : l0_8.length ≤ c0_8) (h : laws_szPacket.f a0_0 a0_1 a0_2 a0_3 a0_4 a0_5 a0_6 a0_7 l0_8 a1 = some r) :
  Calls Try.prog 26 #[.agg #[.int .i64 a0_0, .int .i64 a0_1, .int .i64 a0_2, .int .i64 a0_3, .int .i64 a0_4, .int .i64 a0_5, .bool a0_6, .bool a0_7, .slice A0_8 l0_8.length c0_8], .int .i64 a1] w fun e w' => e = .returned (.int .i64 r) ∧ Below w.heap.size w w' := by
 have hu52 := Try.underlying52
 have HR0_8 := mk_ hr0_8
 have HC0_8 := mk_ hc0_8
 clear hr0_8 hc0_8
 have HB := mk_ (Below.refl w.heap.size w)
 have H := h
 unfold laws_szPacket.f at H
 clear h
 replace H := Option.bind_eq_some_iff.mp H
 obtain ⟨t339, A30, H⟩ := H
 replace H : (if t339 < 0 then (some (-1)) else (some t339)) = some r := H
 have A3 := mk_ A30
 clear A30
 by_cases c4 : t339 < 0
 focus
  rw [if_pos c4] at H
  have c4b0 : decide (t339 < 0) = true := decide_eq_true c4
  clear c4
  obtain rfl := Option.some.inj H
 rotate_left
 focus
  rw [if_neg c4] at H
  have c4b0 : decide (t339 < 0) = false := decide_eq_false c4
  clear c4
  obtain rfl := Option.some.inj H
 rotate_left
 all_goals
  go_enter Try.func26, Try.ntmps26
  go_wp2_with (first | ((with_reducible refine gate_dst (N := 2) rfl ?_); refine box_event ?hg (N := 2) ?hd (cs := #[.int .i64 a0_0, .int .i64 a0_1, .int .i64 a0_2, .int .i64 a0_3, .int .i64 a0_4, .int .i64 a0_5, .bool a0_6, .bool a0_7, .slice A0_8 l0_8.length c0_8]) (t := 52) ?hr ?_; (case hd => rfl); (case hg => rfl); (case hr => first | (go_simp; done) | (go_simp; rfl)); intro gb980 hg w981 hbox hb; have n0_ := mk_ (below_step (ub_ HB.out) hb); have BK338 := mk_ (hbox); have GW338 := mk_ ((by rw [hg]; exact (below_size (ub_ HB.out)) : w.heap.size ≤ gb980)); have GE338 := ge_ ((by rw [hg]; exact (below_size (ub_ HB.out)) : w.heap.size ≤ gb980)); replace HB := n0_; clear n0_; clear hb hbox hg; obtain ⟨hcz982_0, hcz982_1, hcz982_2, hcz982_3, hcz982_4, hcz982_5, hcz982_6, hcz982_7, hcz982_8, hfz982_0, hfz982_1, hfz982_2, hfz982_3, hfz982_4, hfz982_5, hfz982_6, hfz982_7, hfz982_8⟩ := cells9_ BK338.out) | ((with_reducible refine gate_callee (f := 70) rfl ?_); refine goesL_ (some 8) rfl rfl Try.func70 (by kernel_rfl) rfl #[.slice A0_8 l0_8.length c0_8, .int .i64 a1] rfl (by (try simp only [lm_, lo_, ln_]); try rfl) ?_; (with_reducible refine (laws_szByteS.calls _ _ l0_8 a1 t339 _ ?side1 ?side2 A3.out).mono ?_); (case side1 => repeat (first | exact (Kd.C_below HR0_8.out HB.out) | (with_reducible refine Kd.C_alloc ?_ _) | (with_reducible refine Kd.C_drewN ?_ _) | (with_reducible refine Kd.C_drew ?_))); (case side2 => exact HC0_8.out); rintro e w' ⟨rfl, ⟨nd, rfl⟩⟩; refine ⟨_, rfl, ?_⟩))
  go_ret
  exact ⟨by first | rfl | (simp [errW_none, errW_some] <;> rfl) | (simp [*, errW_none, errW_some] <;> rfl), us_ HB.out⟩

/-! ### laws_toByteS: function 71 -/
def laws_toByteS.l0 : Nat → List Int → List Int → Int → Option (List Int)
 | 0, _, _, _ => none
 | k + 1, x0, x3, x4 => if x4 < (x0.length : Int) then (if 0 ≤ x4 then (if x4 < (x3.length : Int) then (laws_toByteS.l0 k x0 (x3.set (x4 : Int).toNat (rd x0 x4)) (wrap64 (x4 + 1))) else (none)) else (none)) else (some x3)
def laws_toByteS.f (k : Nat) (l0 : List Int) : Option (List Int) := if 0 ≤ (l0.length : Int) then (if ((l0.length : Int) : Int).toNat ≤ 281474976710656 then (laws_toByteS.l0 k l0 (List.replicate ((l0.length : Int) : Int).toNat 0) 0) else (none)) else (none)
theorem laws_toByteS.mono_l : ∀ k, (∀ y0 y1 y2, LeO (laws_toByteS.l0 k y0 y1 y2) (laws_toByteS.l0 (k + 1) y0 y1 y2))
 | 0 => fun _ _ _ r h => by simp [laws_toByteS.l0] at h
 | k + 1 => by
  have ih0 := laws_toByteS.mono_l k
  ·intro y0 y1 y2
   unfold laws_toByteS.l0
   repeat' first
   | (with_reducible exact ih0 _ _ _)
   | (with_reducible exact LeO.refl _)
   | (with_reducible exact LeO.none _)
   | (with_reducible refine LeO.ite ?_ ?_)
   | (with_reducible refine LeO.bind ?_ (fun _ => ?_))
   | exact ih0 _ _ _
   | exact LeO.none _
   | refine LeO.ite ?_ ?_
   | refine LeO.bind ?_ (fun _ => ?_)
theorem laws_toByteS.mono : ∀ a0 k, LeO (laws_toByteS.f k a0) (laws_toByteS.f (k + 1) a0) := by
 intro a0 k
 have ih0 := laws_toByteS.mono_l k
 unfold laws_toByteS.f
 repeat' first
   | (with_reducible exact ih0 _ _ _)
   | (with_reducible exact LeO.refl _)
   | (with_reducible exact LeO.none _)
   | (with_reducible refine LeO.ite ?_ ?_)
   | (with_reducible refine LeO.bind ?_ (fun _ => ?_))
   | exact ih0 _ _ _
   | exact LeO.none _
   | refine LeO.ite ?_ ?_
   | refine LeO.bind ?_ (fun _ => ?_)
set_option maxHeartbeats 8000000 in
set_option maxRecDepth 100000 in
theorem laws_toByteS.calls (k : Nat) (A0 : Option Addr) (c0 : Nat) (l0 : List Int) (r : List Int) (w : World) (hr0 : Kd.C (Kd.int .u8) w A0 l0.length l0) (hc0 : l0.length ≤ c0) (h : laws_toByteS.f k l0 = some r) :
  Calls Try.prog 71 #[.slice A0 l0.length c0] w fun e w' => ∃ v0_ : Value, e = .returned (v0_) ∧ Kd.R (Kd.int .u8) 5 w' w.heap.size (fun _ => True) v0_ r ∧ Below w.heap.size w w' := by
 have HR0 := mk_ hr0
 have HC0 := mk_ hc0
 clear hr0 hc0
 have HB := mk_ (Below.refl w.heap.size w)
 have H := h
 unfold laws_toByteS.f at H
 clear h
 by_cases c2 : 0 ≤ (l0.length : Int)
 rotate_left
 ·rw [if_neg c2] at H
  exact absurd H (by simp)
 rw [if_pos c2] at H
 have c2b0 := eq_true c2
 have c2b1 : decide (0 ≤ (l0.length : Int)) = true := decide_eq_true c2
 clear c2
 by_cases c3 : ((l0.length : Int) : Int).toNat ≤ 281474976710656
 rotate_left
 ·rw [if_neg c3] at H
  exact absurd H (by simp)
 rw [if_pos c3] at H
 have c3b0 := eq_true c3
 have c3b1 : decide (((l0.length : Int) : Int).toNat ≤ 281474976710656) = true := decide_eq_true c3
 clear c3
 obtain ⟨y340, hy340⟩ : ∃ y_ : List Int, y_ = (List.replicate ((l0.length : Int) : Int).toNat 0) := ⟨_, rfl⟩
 replace H : (laws_toByteS.l0 k l0 y340 0) = some r := by first | (rw [hy340]; with_reducible exact H) | (have H2_ := (Option.bind_some _ _).symm.trans H; rw [hy340]; with_reducible exact H2_) | (have H2_ := (Option.bind_some _ _).symm.trans H; with_reducible exact H2_) | with_reducible exact H | (rw [hy340]; exact H) | exact H
 have Ny340 := mk_ hy340
 clear hy340
 have H' := mk_ H
 clear H
 go_enter Try.func71, Try.ntmps71
 go_wp2_with (first | ((with_reducible refine gate_dst (N := 7) rfl ?_); refine Kd.R_make (Kd.int .u8) _ 5 rfl (N := 7) rfl 22 _ _ rfl (l0.length : Int) rfl rfl Try.underlying22 (.int .u8 0) 1 info5 rfl (by decide) (by omega) 0 (ok := fun _ => True) (okp := fun _ => True) rfl (fun _ hk => hk) trivial (of_decide_eq_true (by first | (with_reducible assumption) | assumption)) (Nat.le_trans (Nat.mul_le_mul_right _ (of_decide_eq_true (by first | (with_reducible assumption) | assumption) : (l0.length : Int).toNat ≤ 281474976710656)) (by omega)) (Below.refl _ _) (Nat.le_refl _) ?_; intro v341 w4 ho5 hb hg_ hnew_; clear hg_ hnew_; (first | rw [← Ny340.out] at ho5 | (simp only [Int.reduceToNat] at ho5; rw [← Ny340.out] at ho5)); have HO342 := mk_ (Kd.R_lower ho5 (below_size (ub_ HB.out))); replace HB := mk_ (below_step (ub_ HB.out) hb); clear hb ho5))
 go_loopg [4] k (fun kq v4 w' => ∃ (x3_1 : List Int) (x4_1 : Int), v4 = .int .i64 x4_1 ∧ Aside0 (laws_toByteS.l0 kq l0 x3_1 x4_1 = some r) ∧ Aside0 (kq ≤ k) ∧ Aside0 (Kd.R (Kd.int .u8) 5 w' w.heap.size (fun _ => True) v341 x3_1) ∧ Aside0 (Below w.heap.size w w'))
 case atStart => exact ⟨(y340), (0), (by first | rfl | (simp; done) | (simp [*]; done)), H', ⟨Nat.le_refl _⟩, ⟨Kd.ur_ HO342.out⟩, ⟨ub_ HB.out⟩⟩
 case round =>
  clear H'
  try clear c2
  try clear c2b0
  try clear c2b1
  try clear p2
  try clear c3
  try clear c3b0
  try clear c3b1
  obtain ⟨x3_1, x4_1, rfl, HA, HK1, HO_3, HB⟩ := hrel
  cases gk with
  | zero => exact absurd HA.out (by simp [laws_toByteS.l0])
  | succ k1 =>
   have H := HA.out
   clear HA
   simp only [laws_toByteS.l0] at H
   by_cases c6 : x4_1 < (l0.length : Int)
   rotate_left
   ·rw [if_neg c6] at H
    have c6b0 : decide (x4_1 < (l0.length : Int)) = false := decide_eq_false c6
    clear c6
    obtain rfl := Option.some.inj H
    go_wp2
    go_ret
    exact ⟨_, by first | rfl | (simp [errW_none, errW_some] <;> rfl) | (simp [*, errW_none, errW_some] <;> rfl), by (with_reducible repeat (first | apply Kd.R_alloc | apply Kd.R_drewN | apply Kd.R_drew)); exact HO_3.out, by repeat (first | (with_reducible first | exact HB.out | apply na_ | apply nn_ | apply nw_) | exact HB.out)⟩
   rw [if_pos c6] at H
   have c6b0 : decide (x4_1 < (l0.length : Int)) = true := decide_eq_true c6
   clear c6
   by_cases c7 : 0 ≤ x4_1
   rotate_left
   ·rw [if_neg c7] at H
    exact absurd H (by simp)
   rw [if_pos c7] at H
   have c7b0 : decide (0 ≤ x4_1) = true := decide_eq_true c7
   clear c7
   by_cases c8 : x4_1 < (x3_1.length : Int)
   rotate_left
   ·rw [if_neg c8] at H
    exact absurd H (by simp)
   rw [if_pos c8] at H
   have c8b0 : decide (x4_1 < (x3_1.length : Int)) = true := decide_eq_true c8
   clear c8
   obtain ⟨y344, hy344⟩ : ∃ y_ : List Int, y_ = (x3_1.set (x4_1 : Int).toNat (rd l0 x4_1)) := ⟨_, rfl⟩
   replace H : (laws_toByteS.l0 k1 l0 y344 (wrap64 (x4_1 + 1))) = some r := by first | (rw [hy344]; with_reducible exact H) | (have H2_ := (Option.bind_some _ _).symm.trans H; rw [hy344]; with_reducible exact H2_) | (have H2_ := (Option.bind_some _ _).symm.trans H; with_reducible exact H2_) | with_reducible exact H | (rw [hy344]; exact H) | exact H
   have Ny344 := mk_ hy344
   clear hy344
   have H' := mk_ H
   clear H
   have p343 : 0 ≤ (x4_1 : Int) := of_decide_eq_true (by first | (with_reducible assumption) | assumption)
   have q343 : x4_1 < (l0.length : Int) := of_decide_eq_true (by first | (with_reducible assumption) | assumption)
   obtain ⟨ad343, e343, hx343_0⟩ := Kd.at_int HR0.out x4_1 p343 q343
   cases e343
   replace hx343_0 := (HB.out.cell (lc_ w _ hx343_0)).trans hx343_0
   replace p343 := eq_true p343
   replace q343 := eq_true q343
   have p9 : 0 ≤ (x4_1 : Int) := of_decide_eq_true (by first | (with_reducible assumption) | assumption)
   have q9 : (x4_1 : Int) < ((x3_1.length : Int) : Int) := of_decide_eq_true (by first | (with_reducible assumption) | assumption)
   obtain ⟨go9, co9, eo9, gb9, gl9, cl9, HG9⟩ := Kd.R_form HO_3.out (by omega)
   (first | cases eo9 | (injection eo9 with ea_ en_ ec_; (first | subst ea_ | (injection ea_ with ea_; subst ea_)); subst ec_; clear en_))
   have GB9 := mk_ gb9
   have GG9 := mk_ HG9
   clear gb9 gl9 HG9
   obtain ⟨hx9_0, hf9_0⟩ := Kd.R_celln 0 HO_3.out (x4_1 : Int) p9 q9
   replace p9 := eq_true p9
   replace q9 := eq_true q9
   have HP10 := Kd.R_putg HO_3.out (x4_1 : Int) (rd l0 x4_1)
   go_wp2_with (first | ((with_reducible refine gate_store (t := 5) (p := 20) rfl ?_); refine store_event (t := 5) (p := 20) (v := ?_) (w1 := (wr.setCell ⟨go9, (x4_1 : Int).toNat, none⟩ (.int .u8 (rd l0 x4_1)))) ?hg ?ho ?hn ?hr ?_; (case ho => rfl); (case hg => rfl); (case hn => rfl); (case hr => first | (go_simp; done) | (go_simp; rfl)); intro w11 hw; have hg : wr.grownBy w11 (some go9) := (by rw [hw]; exact HP10.2); have hp_ : Kd.R (Kd.int .u8) 5 w11 w.heap.size (fun _ => True) (.slice (some ⟨go9, 0, none⟩) x3_1.length co9) y344 := (by rw [hw, Ny344.out]; exact HP10.1); clear HP10; replace HO_3 := mk_ (hp_); replace HB := mk_ ((by rw [hw]; exact below_set (HB.out) GB9.out : Below w.heap.size w w11)); clear hg hw hp_))
   go_roundg k1
   case measure => have := HK1.out; omega
   case rel => exact ⟨(y344), (wrap64 (x4_1 + 1)), (by first | rfl | (simp; done) | (simp [*]; done)), H', ⟨by have := HK1.out; omega⟩, ⟨Kd.ur_ HO_3.out⟩, ⟨ub_ HB.out⟩⟩

/-! ### laws_toPacket: function 27 -/
def laws_toPacket.f (k : Nat) (a0_0 : Int) (a0_1 : Int) (a0_2 : Int) (a0_3 : Int) (a0_4 : Int) (a0_5 : Int) (a0_6 : Bool) (a0_7 : Bool) (l0_8 : List Int) : Option (Int × Int × Int × Int × Int × Int × Bool × Bool × List Int) := (laws_toByteS.f k l0_8).bind fun t348 => (some (a0_0, a0_1, a0_2, a0_3, a0_4, a0_5, a0_6, a0_7, t348))
theorem laws_toPacket.mono : ∀ a0 a1 a2 a3 a4 a5 a6 a7 a8 k, LeO (laws_toPacket.f k a0 a1 a2 a3 a4 a5 a6 a7 a8) (laws_toPacket.f (k + 1) a0 a1 a2 a3 a4 a5 a6 a7 a8) := by
 intro a0 a1 a2 a3 a4 a5 a6 a7 a8 k
 unfold laws_toPacket.f
 repeat' first
   | (with_reducible exact laws_toByteS.mono _ _)
   | (with_reducible exact LeO.refl _)
   | (with_reducible exact LeO.none _)
   | (with_reducible refine LeO.ite ?_ ?_)
   | (with_reducible refine LeO.bind ?_ (fun _ => ?_))
   | exact laws_toByteS.mono _ _
   | exact LeO.none _
   | refine LeO.ite ?_ ?_
   | refine LeO.bind ?_ (fun _ => ?_)
set_option maxHeartbeats 8000000 in
set_option maxRecDepth 100000 in
theorem laws_toPacket.calls (k : Nat) (a0_0 : Int) (a0_1 : Int) (a0_2 : Int) (a0_3 : Int) (a0_4 : Int) (a0_5 : Int) (a0_6 : Bool) (a0_7 : Bool) (A0_8 : Option Addr) (c0_8 : Nat) (l0_8 : List Int) (r1 : Int) (r2 : Int) (r3 : Int) (r4 : Int) (r5 : Int) (r6 : Int) (r7 : Bool) (r8 : Bool) (r9 : List Int) (w : World) (hr0_8 : Kd.C (Kd.int .u8) w A0_8 l0_8.length l0_8) (hc0_8 : l0_8.length ≤ c0_8) (h : laws_toPacket.f k a0_0 a0_1 a0_2 a0_3 a0_4 a0_5 a0_6 a0_7 l0_8 = some (r1, r2, r3, r4, r5, r6, r7, r8, r9)) :
  Calls Try.prog 27 #[.agg #[.int .i64 a0_0, .int .i64 a0_1, .int .i64 a0_2, .int .i64 a0_3, .int .i64 a0_4, .int .i64 a0_5, .bool a0_6, .bool a0_7, .slice A0_8 l0_8.length c0_8]] w fun e w' => ∃ v8_ : Value, e = .returned (.agg #[.int .i64 r1, .int .i64 r2, .int .i64 r3, .int .i64 r4, .int .i64 r5, .int .i64 r6, .bool r7, .bool r8, v8_]) ∧ Kd.R (Kd.int .u8) 5 w' w.heap.size (fun _ => True) v8_ r9 ∧ Below w.heap.size w w' := by
 have hu52 := Try.underlying52
 have hu37 := Try.underlying37
 have HR0_8 := mk_ hr0_8
 have HC0_8 := mk_ hc0_8
 clear hr0_8 hc0_8
 have HB := mk_ (Below.refl w.heap.size w)
 have H := h
 unfold laws_toPacket.f at H
 clear h
 replace H := Option.bind_eq_some_iff.mp H
 obtain ⟨t348, A20, H⟩ := H
 replace H : (some (a0_0, a0_1, a0_2, a0_3, a0_4, a0_5, a0_6, a0_7, t348)) = some (r1, r2, r3, r4, r5, r6, r7, r8, r9) := H
 have A2 := mk_ A20
 clear A20
 simp only [Option.some.injEq, Prod.mk.injEq] at H
 obtain ⟨rfl, rfl, rfl, rfl, rfl, rfl, rfl, rfl, rfl⟩ := H
 go_enter Try.func27, Try.ntmps27
 go_wp2_with (first | ((with_reducible refine gate_dst (N := 1) rfl ?_); refine box_event ?hg (N := 1) ?hd (cs := #[.int .i64 a0_0, .int .i64 a0_1, .int .i64 a0_2, .int .i64 a0_3, .int .i64 a0_4, .int .i64 a0_5, .bool a0_6, .bool a0_7, .slice A0_8 l0_8.length c0_8]) (t := 52) ?hr ?_; (case hd => rfl); (case hg => rfl); (case hr => first | (go_simp; done) | (go_simp; rfl)); intro gb345 hg w3 hbox hb; have n0_ := mk_ (below_step (ub_ HB.out) hb); have BK345 := mk_ (hbox); have GW345 := mk_ ((by rw [hg]; exact (below_size (ub_ HB.out)) : w.heap.size ≤ gb345)); have GE345 := ge_ ((by rw [hg]; exact (below_size (ub_ HB.out)) : w.heap.size ≤ gb345)); replace HB := n0_; clear n0_; clear hb hbox hg) | ((with_reducible refine gate_dst (N := 2) rfl ?_); refine box_event ?hg (N := 2) ?hd (cs := #[.int .i64 0, .int .i64 0, .int .i64 0, .int .i64 0, .int .i64 0, .int .i64 0, .bool false, .bool false, .slice none 0 0]) (t := 37) ?hr ?_; (case hd => rfl); (case hg => rfl); (case hr => first | (go_simp; done) | (go_simp; rfl)); intro gb346 hg w4 hbox hb; have n0_ := mk_ (blk_below (u_ BK345.out) hb); have n1_ := mk_ (below_step (us_ HB.out) hb); have BK346 := mk_ (hbox); have GW346 := mk_ ((by rw [hg]; exact (below_size (us_ HB.out)) : w.heap.size ≤ gb346)); have GE346 := ge_ ((by rw [hg]; exact (below_size (us_ HB.out)) : w.heap.size ≤ gb346)); have NB345_346 := nq_ ((by rw [hg]; exact Nat.ne_of_lt (blk_lt (u_ BK345.out)) : gb345 ≠ gb346)); have NB346_345 := nq_ ((by rw [hg]; exact Nat.ne_of_gt (blk_lt (u_ BK345.out)) : gb346 ≠ gb345)); replace BK345 := n0_; replace HB := n1_; clear n0_ n1_; clear hb hbox hg) | ((with_reducible refine gate_dst (N := 3) rfl ?_); refine box_event ?hg (N := 3) ?hd (cs := #[.int .i64 0, .int .i64 0, .int .i64 0, .int .i64 0, .int .i64 0, .int .i64 0, .bool false, .bool false, .slice none 0 0]) (t := 37) ?hr ?_; (case hd => rfl); (case hg => rfl); (case hr => first | (go_simp; done) | (go_simp; rfl)); intro gb347 hg w5 hbox hb; have n0_ := mk_ (blk_below (u_ BK345.out) hb); have n1_ := mk_ (blk_below (u_ BK346.out) hb); have n2_ := mk_ (below_step (us_ HB.out) hb); have BK347 := mk_ (hbox); have GW347 := mk_ ((by rw [hg]; exact (below_size (us_ HB.out)) : w.heap.size ≤ gb347)); have GE347 := ge_ ((by rw [hg]; exact (below_size (us_ HB.out)) : w.heap.size ≤ gb347)); have NB345_347 := nq_ ((by rw [hg]; exact Nat.ne_of_lt (blk_lt (u_ BK345.out)) : gb345 ≠ gb347)); have NB347_345 := nq_ ((by rw [hg]; exact Nat.ne_of_gt (blk_lt (u_ BK345.out)) : gb347 ≠ gb345)); have NB346_347 := nq_ ((by rw [hg]; exact Nat.ne_of_lt (blk_lt (u_ BK346.out)) : gb346 ≠ gb347)); have NB347_346 := nq_ ((by rw [hg]; exact Nat.ne_of_gt (blk_lt (u_ BK346.out)) : gb347 ≠ gb346)); replace BK345 := n0_; replace BK346 := n1_; replace HB := n2_; clear n0_ n1_ n2_; clear hb hbox hg; have hnb6 := NB345_346.out; have hnc6 := NB346_345.out; have hnb7 := NB345_347.out; have hnc7 := NB347_345.out; obtain ⟨hcz8_0, hcz8_1, hcz8_2, hcz8_3, hcz8_4, hcz8_5, hcz8_6, hcz8_7, hcz8_8, hfz8_0, hfz8_1, hfz8_2, hfz8_3, hfz8_4, hfz8_5, hfz8_6, hfz8_7, hfz8_8⟩ := cells9_ BK345.out; have hnb9 := NB347_346.out; have hnc9 := NB346_347.out; obtain ⟨hcz10_0, hcz10_1, hcz10_2, _, _, _, _, _, _, hfz10_0, hfz10_1, hfz10_2, _, _, _, _, _, _⟩ := cells9_ BK347.out) | ((with_reducible refine gate_store (t := 4) (p := 27) rfl ?_); refine store_event (t := 4) (p := 27) (v := ?vo_w11) (w1 := ?w1_1) ?hg ?ho ?hn ?hr ?_; (case ho => rfl); (case hg => rfl); (case hn => rfl); (case hr => first | (go_simp; done) | (go_simp; rfl)); intro w11 hw; have n0_ : Aside0 (w11.heap[gb345]? = some (.cells #[.int .i64 a0_0, .int .i64 a0_1, .int .i64 a0_2, .int .i64 a0_3, .int .i64 a0_4, .int .i64 a0_5, .bool a0_6, .bool a0_7, .slice A0_8 l0_8.length c0_8] 52 (0, 0))) := ⟨(by rw [hw]; exact (uf_ BK345.out))⟩; have n1_ : Aside0 (w11.heap[gb346]? = some (.cells #[.int .i64 0, .int .i64 0, .int .i64 0, .int .i64 0, .int .i64 0, .int .i64 0, .bool false, .bool false, .slice none 0 0] 37 (0, 0))) := ⟨(by rw [hw]; exact (uf_ BK346.out))⟩; have n2_ : Aside0 (w11.heap[gb347]? = some (.cells #[.int .i64 a0_0, .int .i64 a0_1, .int .i64 a0_2, .int .i64 a0_3, .int .i64 a0_4, .int .i64 a0_5, .bool a0_6, .bool a0_7, .slice none 0 0] 37 (0, 0))) := ⟨(by rw [hw]; exact (by (with_reducible repeat (first | refine bn_ ?_ _ | refine bw_ ?_ | refine ba_ ?_ _)); refine blk_put (cs := #[.int .i64 a0_0, .int .i64 a0_1, .int .i64 a0_2, .int .i64 a0_3, .int .i64 a0_4, .int .i64 a0_5, .bool a0_6, .bool false, .slice none 0 0]) ?_ 7 _ rfl; (with_reducible repeat (first | refine bn_ ?_ _ | refine bw_ ?_ | refine ba_ ?_ _)); refine blk_put (cs := #[.int .i64 a0_0, .int .i64 a0_1, .int .i64 a0_2, .int .i64 a0_3, .int .i64 a0_4, .int .i64 a0_5, .bool false, .bool false, .slice none 0 0]) ?_ 6 _ rfl; (with_reducible repeat (first | refine bn_ ?_ _ | refine bw_ ?_ | refine ba_ ?_ _)); refine blk_put (cs := #[.int .i64 a0_0, .int .i64 a0_1, .int .i64 a0_2, .int .i64 a0_3, .int .i64 a0_4, .int .i64 0, .bool false, .bool false, .slice none 0 0]) ?_ 5 _ rfl; (with_reducible repeat (first | refine bn_ ?_ _ | refine bw_ ?_ | refine ba_ ?_ _)); refine blk_put (cs := #[.int .i64 a0_0, .int .i64 a0_1, .int .i64 a0_2, .int .i64 a0_3, .int .i64 0, .int .i64 0, .bool false, .bool false, .slice none 0 0]) ?_ 4 _ rfl; (with_reducible repeat (first | refine bn_ ?_ _ | refine bw_ ?_ | refine ba_ ?_ _)); refine blk_put (cs := #[.int .i64 a0_0, .int .i64 a0_1, .int .i64 a0_2, .int .i64 0, .int .i64 0, .int .i64 0, .bool false, .bool false, .slice none 0 0]) ?_ 3 _ rfl; (with_reducible repeat (first | refine bn_ ?_ _ | refine bw_ ?_ | refine ba_ ?_ _)); refine blk_put (cs := #[.int .i64 a0_0, .int .i64 a0_1, .int .i64 0, .int .i64 0, .int .i64 0, .int .i64 0, .bool false, .bool false, .slice none 0 0]) ?_ 2 _ rfl; (with_reducible repeat (first | refine bn_ ?_ _ | refine bw_ ?_ | refine ba_ ?_ _)); refine blk_put (cs := #[.int .i64 a0_0, .int .i64 0, .int .i64 0, .int .i64 0, .int .i64 0, .int .i64 0, .bool false, .bool false, .slice none 0 0]) ?_ 1 _ rfl; (with_reducible repeat (first | refine bn_ ?_ _ | refine bw_ ?_ | refine ba_ ?_ _)); refine blk_put (cs := #[.int .i64 0, .int .i64 0, .int .i64 0, .int .i64 0, .int .i64 0, .int .i64 0, .bool false, .bool false, .slice none 0 0]) ?_ 0 _ rfl; (with_reducible repeat (first | refine bn_ ?_ _ | refine bw_ ?_ | refine ba_ ?_ _)); exact BK347.out))⟩; have n3_ : Aside0 (Below w.heap.size w w11) := ⟨(by rw [hw]; exact (us_ HB.out))⟩; clear hw; clear BK345; clear BK346; clear BK347; clear HB; have BK345 := n0_; have BK346 := n1_; have BK347 := n2_; have HB := n3_; clear n0_ n1_ n2_ n3_; obtain ⟨hcz12_0, hcz12_1, hcz12_2, hcz12_3, hcz12_4, hcz12_5, hcz12_6, hcz12_7, hcz12_8, hfz12_0, hfz12_1, hfz12_2, hfz12_3, hfz12_4, hfz12_5, hfz12_6, hfz12_7, hfz12_8⟩ := cells9_ BK345.out) | ((with_reducible refine gate_callee (f := 71) rfl ?_); refine goesL_ (some 30) rfl rfl Try.func71 (by kernel_rfl) rfl #[.slice A0_8 l0_8.length c0_8] rfl (by (try simp only [lm_, lo_, ln_]); try rfl) ?_; (with_reducible refine (laws_toByteS.calls k _ _ l0_8 t348 _ ?side1 ?side2 A2.out).mono ?_); (case side1 => repeat (first | exact (Kd.C_below HR0_8.out HB.out) | (with_reducible refine Kd.C_alloc ?_ _) | (with_reducible refine Kd.C_drewN ?_ _) | (with_reducible refine Kd.C_drew ?_))); (case side2 => exact HC0_8.out); rintro e w13 ⟨v349, rfl, ho0, hb⟩; refine ⟨_, rfl, ?_⟩; have HO350 := mk_ (Kd.R_lower ho0 (below_size (us_ HB.out))); replace BK345 := mk_ (blk_below (u_ BK345.out) hb); replace BK346 := mk_ (blk_below (u_ BK346.out) hb); replace BK347 := mk_ (blk_below (u_ BK347.out) hb); replace HB := mk_ (below_step (us_ HB.out) hb); obtain ⟨Ao14, co14, eo14⟩ := Kd.R_slice HO350.out; subst eo14; obtain ⟨_, _, _, _, _, _, _, _, _, _, _, _, _, _, _, _, _, _⟩ := cells9_ BK347.out; obtain ⟨_, _, _, _, _, _, _, _, _, _, _, _, _, _, _, _, _, _⟩ := cells9_ BK346.out) | ((with_reducible refine gate_store (t := 37) (p := 2) rfl ?_); refine store_event (t := 37) (p := 2) (v := ?vo_w17) (w1 := ?w1_2) ?hg ?ho ?hn ?hr ?_; (case ho => rfl); (case hg => rfl); (case hn => rfl); (case hr => first | (go_simp; done) | (go_simp; rfl)); intro w17 hw; have n0_ : Aside0 (Kd.R (Kd.int .u8) 5 w17 w.heap.size (fun _ => True) (.slice Ao14 t348.length co14) t348) := ⟨(by rw [hw]; exact (by (with_reducible repeat (first | apply Kd.R_alloc | apply Kd.R_drewN | apply Kd.R_drew)); exact Kd.R_mono (Kd.R_far9 (g := gb346) (Kd.R_far (p := ⟨gb347, 8, none⟩) (Kd.R_types (Kd.R_types HO350.out BK347.out (by decide)) BK346.out (by decide)) (fun _ hk => hk.1.2) (.slice Ao14 t348.length co14)) (fun _ hk => hk.2) _ _ _ _ _ _ _ _ _) (fun _ hk => trivial)))⟩; have n1_ : Aside0 (w17.heap[gb345]? = some (.cells #[.int .i64 a0_0, .int .i64 a0_1, .int .i64 a0_2, .int .i64 a0_3, .int .i64 a0_4, .int .i64 a0_5, .bool a0_6, .bool a0_7, .slice A0_8 l0_8.length c0_8] 52 (0, 0))) := ⟨(by rw [hw]; exact (uf_ BK345.out))⟩; have n2_ : Aside0 (w17.heap[gb346]? = some (.cells #[.int .i64 a0_0, .int .i64 a0_1, .int .i64 a0_2, .int .i64 a0_3, .int .i64 a0_4, .int .i64 a0_5, .bool a0_6, .bool a0_7, .slice Ao14 t348.length co14] 37 (0, 0))) := ⟨(by rw [hw]; exact (by (with_reducible repeat (first | refine bn_ ?_ _ | refine bw_ ?_ | refine ba_ ?_ _)); with_reducible apply blk_put9; (with_reducible repeat (first | refine bn_ ?_ _ | refine bw_ ?_ | refine ba_ ?_ _)); refine blk_far ?_ NB346_347.out _; (with_reducible repeat (first | refine bn_ ?_ _ | refine bw_ ?_ | refine ba_ ?_ _)); exact BK346.out))⟩; have n3_ : Aside0 (w17.heap[gb347]? = some (.cells #[.int .i64 a0_0, .int .i64 a0_1, .int .i64 a0_2, .int .i64 a0_3, .int .i64 a0_4, .int .i64 a0_5, .bool a0_6, .bool a0_7, .slice Ao14 t348.length co14] 37 (0, 0))) := ⟨(by rw [hw]; exact (by (with_reducible repeat (first | refine bn_ ?_ _ | refine bw_ ?_ | refine ba_ ?_ _)); refine blk_far ?_ NB347_346.out _; (with_reducible repeat (first | refine bn_ ?_ _ | refine bw_ ?_ | refine ba_ ?_ _)); refine blk_far ?_ NB347_346.out _; (with_reducible repeat (first | refine bn_ ?_ _ | refine bw_ ?_ | refine ba_ ?_ _)); refine blk_far ?_ NB347_346.out _; (with_reducible repeat (first | refine bn_ ?_ _ | refine bw_ ?_ | refine ba_ ?_ _)); refine blk_far ?_ NB347_346.out _; (with_reducible repeat (first | refine bn_ ?_ _ | refine bw_ ?_ | refine ba_ ?_ _)); refine blk_far ?_ NB347_346.out _; (with_reducible repeat (first | refine bn_ ?_ _ | refine bw_ ?_ | refine ba_ ?_ _)); refine blk_far ?_ NB347_346.out _; (with_reducible repeat (first | refine bn_ ?_ _ | refine bw_ ?_ | refine ba_ ?_ _)); refine blk_far ?_ NB347_346.out _; (with_reducible repeat (first | refine bn_ ?_ _ | refine bw_ ?_ | refine ba_ ?_ _)); refine blk_far ?_ NB347_346.out _; (with_reducible repeat (first | refine bn_ ?_ _ | refine bw_ ?_ | refine ba_ ?_ _)); refine blk_far ?_ NB347_346.out _; (with_reducible repeat (first | refine bn_ ?_ _ | refine bw_ ?_ | refine ba_ ?_ _)); refine blk_put (cs := #[.int .i64 a0_0, .int .i64 a0_1, .int .i64 a0_2, .int .i64 a0_3, .int .i64 a0_4, .int .i64 a0_5, .bool a0_6, .bool a0_7, .slice none 0 0]) ?_ 8 _ rfl; (with_reducible repeat (first | refine bn_ ?_ _ | refine bw_ ?_ | refine ba_ ?_ _)); exact BK347.out))⟩; have n4_ : Aside0 (Below w.heap.size w w17) := ⟨(by rw [hw]; exact (us_ HB.out))⟩; clear hw; clear HO350; clear BK345; clear BK346; clear BK347; clear HB; have HO350 := n0_; have BK345 := n1_; have BK346 := n2_; have BK347 := n3_; have HB := n4_; clear n0_ n1_ n2_ n3_ n4_))
 refine bodyPost_ret (results_cell_row rfl _ _ gb346 37 #[.int .i64 a0_0, .int .i64 a0_1, .int .i64 a0_2, .int .i64 a0_3, .int .i64 a0_4, .int .i64 a0_5, .bool a0_6, .bool a0_7, .slice Ao14 t348.length co14] (0, 0) _ rfl (u_ BK346.out) Try.underlying37 rfl (by kernel_rfl)) rfl ?_
 exact ⟨_, by first | rfl | (simp [errW_none, errW_some] <;> rfl) | (simp [*, errW_none, errW_some] <;> rfl), by (with_reducible repeat (first | apply Kd.R_alloc | apply Kd.R_drewN | apply Kd.R_drew)); exact HO350.out, us_ HB.out⟩

/-! ### laws_eqByteS: function 72 -/
def laws_eqByteS.l0 : Nat → List Int → List Int → Int → Option (Bool)
 | 0, _, _, _ => none
 | k + 1, x0, x1, x5 => if x5 < (x0.length : Int) then (if 0 ≤ x5 then (if x5 < (x1.length : Int) then (if (rd x0 x5) = (rd x1 x5) then (laws_eqByteS.l0 k x0 x1 (wrap64 (x5 + 1))) else (some false)) else (none)) else (none)) else (some true)
def laws_eqByteS.f (k : Nat) (l0 : List Int) (l1 : List Int) : Option (Bool) := if (l0.length : Int) = (l1.length : Int) then (laws_eqByteS.l0 k l0 l1 0) else (some false)
theorem laws_eqByteS.mono_l : ∀ k, (∀ y0 y1 y2, LeO (laws_eqByteS.l0 k y0 y1 y2) (laws_eqByteS.l0 (k + 1) y0 y1 y2))
 | 0 => fun _ _ _ r h => by simp [laws_eqByteS.l0] at h
 | k + 1 => by
  have ih0 := laws_eqByteS.mono_l k
  ·intro y0 y1 y2
   unfold laws_eqByteS.l0
   repeat' first
   | (with_reducible exact ih0 _ _ _)
   | (with_reducible exact LeO.refl _)
   | (with_reducible exact LeO.none _)
   | (with_reducible refine LeO.ite ?_ ?_)
   | (with_reducible refine LeO.bind ?_ (fun _ => ?_))
   | exact ih0 _ _ _
   | exact LeO.none _
   | refine LeO.ite ?_ ?_
   | refine LeO.bind ?_ (fun _ => ?_)
theorem laws_eqByteS.mono : ∀ a0 a1 k, LeO (laws_eqByteS.f k a0 a1) (laws_eqByteS.f (k + 1) a0 a1) := by
 intro a0 a1 k
 have ih0 := laws_eqByteS.mono_l k
 unfold laws_eqByteS.f
 repeat' first
   | (with_reducible exact ih0 _ _ _)
   | (with_reducible exact LeO.refl _)
   | (with_reducible exact LeO.none _)
   | (with_reducible refine LeO.ite ?_ ?_)
   | (with_reducible refine LeO.bind ?_ (fun _ => ?_))
   | exact ih0 _ _ _
   | exact LeO.none _
   | refine LeO.ite ?_ ?_
   | refine LeO.bind ?_ (fun _ => ?_)
set_option maxHeartbeats 8000000 in
set_option maxRecDepth 100000 in
theorem laws_eqByteS.calls (k : Nat) (A0 : Option Addr) (c0 : Nat) (l0 : List Int) (A1 : Option Addr) (c1 : Nat) (l1 : List Int) (r : Bool) (w : World) (hr0 : Kd.C (Kd.int .u8) w A0 l0.length l0) (hc0 : l0.length ≤ c0) (hr1 : Kd.C (Kd.int .u8) w A1 l1.length l1) (hc1 : l1.length ≤ c1) (h : laws_eqByteS.f k l0 l1 = some r) :
  Calls Try.prog 72 #[.slice A0 l0.length c0, .slice A1 l1.length c1] w fun e w' => e = .returned (.bool r) ∧ Drawn0 w w' := by
 have HR0 := mk_ hr0
 have HC0 := mk_ hc0
 clear hr0 hc0
 have HR1 := mk_ hr1
 have HC1 := mk_ hc1
 clear hr1 hc1
 have H := h
 unfold laws_eqByteS.f at H
 clear h
 by_cases c3 : (l0.length : Int) = (l1.length : Int)
 rotate_left
 ·rw [if_neg c3] at H
  have c3b0 : ((l0.length : Int) == (l1.length : Int)) = false := beq_eq_false_iff_ne.mpr c3
  have c3b1 : ((l0.length : Int) != (l1.length : Int)) = true := bne_iff_ne.mpr c3
  have c3b2 : (l0.length == l1.length) = false := by first | simpa using c3 | (simp at c3 ⊢; omega)
  obtain rfl := Option.some.inj H
  go_enter Try.func72, Try.ntmps72
  go_wp2
  repeat (go_quiet (fail); try go_wp2)
  go_ret
  exact ⟨by first | rfl | (simp; done) | (simp [*]; done), by repeat (first | exact Drawn0.refl _ | apply Drawn0.step)⟩
 rw [if_pos c3] at H
 have c3b0 : ((l0.length : Int) == (l1.length : Int)) = true := beq_iff_eq.mpr c3
 have c3b1 : ((l0.length : Int) != (l1.length : Int)) = false := bne_eq_false_iff_eq.mpr c3
 have c3b2 : (l0.length == l1.length) = true := by first | simpa using c3 | (simp at c3 ⊢; omega)
 clear c3
 have H' := mk_ H
 clear H
 go_enter Try.func72, Try.ntmps72
 go_wp2
 repeat (go_quiet (fail); try go_wp2)
 go_loopg [5] k (fun kq v5 w' => ∃ (x5_1 : Int), v5 = .int .i64 x5_1 ∧ Aside0 (laws_eqByteS.l0 kq l0 l1 x5_1 = some r) ∧ Aside0 (kq ≤ k) ∧ Drawn0 w w')
 case atStart => exact ⟨(0), (by first | rfl | (simp; done) | (simp [*]; done)), H', ⟨Nat.le_refl _⟩, by repeat (first | exact Drawn0.refl _ | apply Drawn0.step)⟩
 case round =>
  clear H'
  try clear c1
  try clear p2
  try clear c3
  try clear c3b0
  try clear c3b1
  try clear c3b2
  obtain ⟨x5_1, rfl, HA, HK1, ⟨m1, rfl⟩⟩ := hrel
  cases gk with
  | zero => exact absurd HA.out (by simp [laws_eqByteS.l0])
  | succ k1 =>
   have H := HA.out
   clear HA
   simp only [laws_eqByteS.l0] at H
   by_cases c4 : x5_1 < (l0.length : Int)
   rotate_left
   ·rw [if_neg c4] at H
    have c4b0 : decide (x5_1 < (l0.length : Int)) = false := decide_eq_false c4
    clear c4
    obtain rfl := Option.some.inj H
    go_wp2
    repeat (go_quiet (fail); try go_wp2)
    go_ret
    exact ⟨by first | rfl | (simp; done) | (simp [*]; done), by repeat (first | exact Drawn0.refl _ | apply Drawn0.step)⟩
   rw [if_pos c4] at H
   have c4b0 : decide (x5_1 < (l0.length : Int)) = true := decide_eq_true c4
   clear c4
   by_cases c5 : 0 ≤ x5_1
   rotate_left
   ·rw [if_neg c5] at H
    exact absurd H (by simp)
   rw [if_pos c5] at H
   have c5b0 : decide (0 ≤ x5_1) = true := decide_eq_true c5
   clear c5
   by_cases c6 : x5_1 < (l1.length : Int)
   rotate_left
   ·rw [if_neg c6] at H
    exact absurd H (by simp)
   rw [if_pos c6] at H
   have c6b0 : decide (x5_1 < (l1.length : Int)) = true := decide_eq_true c6
   clear c6
   by_cases c7 : (rd l0 x5_1) = (rd l1 x5_1)
   rotate_left
   ·rw [if_neg c7] at H
    have c7b0 : ((rd l0 x5_1) == (rd l1 x5_1)) = false := beq_eq_false_iff_ne.mpr c7
    have c7b1 : ((rd l0 x5_1) != (rd l1 x5_1)) = true := bne_iff_ne.mpr c7
    obtain rfl := Option.some.inj H
    have p351 : 0 ≤ (x5_1 : Int) := of_decide_eq_true (by first | (with_reducible assumption) | assumption)
    have q351 : x5_1 < (l0.length : Int) := of_decide_eq_true (by first | (with_reducible assumption) | assumption)
    obtain ⟨ad351, e351, hx351_0⟩ := Kd.at_int HR0.out x5_1 p351 q351
    cases e351
    replace p351 := eq_true p351
    replace q351 := eq_true q351
    have p352 : 0 ≤ (x5_1 : Int) := of_decide_eq_true (by first | (with_reducible assumption) | assumption)
    have q352 : x5_1 < (l1.length : Int) := of_decide_eq_true (by first | (with_reducible assumption) | assumption)
    obtain ⟨ad352, e352, hx352_0⟩ := Kd.at_int HR1.out x5_1 p352 q352
    cases e352
    replace p352 := eq_true p352
    replace q352 := eq_true q352
    go_wp2
    repeat (go_quiet (fail); try go_wp2)
    go_ret
    exact ⟨by first | rfl | (simp; done) | (simp [*]; done), by repeat (first | exact Drawn0.refl _ | apply Drawn0.step)⟩
   rw [if_pos c7] at H
   have c7b0 : ((rd l0 x5_1) == (rd l1 x5_1)) = true := beq_iff_eq.mpr c7
   have c7b1 : ((rd l0 x5_1) != (rd l1 x5_1)) = false := bne_eq_false_iff_eq.mpr c7
   clear c7
   have H' := mk_ H
   clear H
   have p351 : 0 ≤ (x5_1 : Int) := of_decide_eq_true (by first | (with_reducible assumption) | assumption)
   have q351 : x5_1 < (l0.length : Int) := of_decide_eq_true (by first | (with_reducible assumption) | assumption)
   obtain ⟨ad351, e351, hx351_0⟩ := Kd.at_int HR0.out x5_1 p351 q351
   cases e351
   replace p351 := eq_true p351
   replace q351 := eq_true q351
   have p352 : 0 ≤ (x5_1 : Int) := of_decide_eq_true (by first | (with_reducible assumption) | assumption)
   have q352 : x5_1 < (l1.length : Int) := of_decide_eq_true (by first | (with_reducible assumption) | assumption)
   obtain ⟨ad352, e352, hx352_0⟩ := Kd.at_int HR1.out x5_1 p352 q352
   cases e352
   replace p352 := eq_true p352
   replace q352 := eq_true q352
   go_wp2
   repeat (go_quiet (fail); try go_wp2)
   go_roundg k1
   case measure => have := HK1.out; omega
   case rel => exact ⟨(wrap64 (x5_1 + 1)), (by first | rfl | (simp; done) | (simp [*]; done)), H', ⟨by have := HK1.out; omega⟩, by repeat (first | exact Drawn0.refl _ | apply Drawn0.step)⟩

/-! ### laws_eqPacket: function 28 -/
def laws_eqPacket.f (k : Nat) (a0_0 : Int) (a0_1 : Int) (a0_2 : Int) (a0_3 : Int) (a0_4 : Int) (a0_5 : Int) (a0_6 : Bool) (a0_7 : Bool) (l0_8 : List Int) (a1_0 : Int) (a1_1 : Int) (a1_2 : Int) (a1_3 : Int) (a1_4 : Int) (a1_5 : Int) (a1_6 : Bool) (a1_7 : Bool) (l1_8 : List Int) : Option (Bool) := if a0_0 = a1_0 then (if a0_1 = a1_1 then (if a0_2 = a1_2 then (if a0_3 = a1_3 then (if a0_4 = a1_4 then (if a0_5 = a1_5 then (if (a0_6 != a1_6) = true then (some false) else (if (a0_7 != a1_7) = true then (some false) else ((laws_eqByteS.f k l0_8 l1_8).bind fun t355 => (if t355 = true then (some true) else (some false))))) else (some false)) else (some false)) else (some false)) else (some false)) else (some false)) else (some false)
theorem laws_eqPacket.mono : ∀ a0 a1 a2 a3 a4 a5 a6 a7 a8 a9 a10 a11 a12 a13 a14 a15 a16 a17 k, LeO (laws_eqPacket.f k a0 a1 a2 a3 a4 a5 a6 a7 a8 a9 a10 a11 a12 a13 a14 a15 a16 a17) (laws_eqPacket.f (k + 1) a0 a1 a2 a3 a4 a5 a6 a7 a8 a9 a10 a11 a12 a13 a14 a15 a16 a17) := by
 intro a0 a1 a2 a3 a4 a5 a6 a7 a8 a9 a10 a11 a12 a13 a14 a15 a16 a17 k
 unfold laws_eqPacket.f
 repeat' first
   | (with_reducible exact laws_eqByteS.mono _ _ _)
   | (with_reducible exact LeO.refl _)
   | (with_reducible exact LeO.none _)
   | (with_reducible refine LeO.ite ?_ ?_)
   | (with_reducible refine LeO.bind ?_ (fun _ => ?_))
   | exact laws_eqByteS.mono _ _ _
   | exact LeO.none _
   | refine LeO.ite ?_ ?_
   | refine LeO.bind ?_ (fun _ => ?_)
set_option maxHeartbeats 8000000 in
set_option maxRecDepth 100000 in
theorem laws_eqPacket.calls (k : Nat) (a0_0 : Int) (a0_1 : Int) (a0_2 : Int) (a0_3 : Int) (a0_4 : Int) (a0_5 : Int) (a0_6 : Bool) (a0_7 : Bool) (A0_8 : Option Addr) (c0_8 : Nat) (l0_8 : List Int) (a1_0 : Int) (a1_1 : Int) (a1_2 : Int) (a1_3 : Int) (a1_4 : Int) (a1_5 : Int) (a1_6 : Bool) (a1_7 : Bool) (A1_8 : Option Addr) (c1_8 : Nat) (l1_8 : List Int) (r : Bool) (w : World) (hr0_8 : Kd.C (Kd.int .u8) w A0_8 l0_8.length l0_8) (hc0_8 : l0_8.length ≤ c0_8) (hr1_8 : Kd.C (Kd.int .u8) w A1_8 l1_8.length l1_8) (hc1_8 : l1_8.length ≤ c1_8) (h : laws_eqPacket.f k a0_0 a0_1 a0_2 a0_3 a0_4 a0_5 a0_6 a0_7 l0_8 a1_0 a1_1 a1_2 a1_3 a1_4 a1_5 a1_6 a1_7 l1_8 = some r) :
  Calls Try.prog 28 #[.agg #[.int .i64 a0_0, .int .i64 a0_1, .int .i64 a0_2, .int .i64 a0_3, .int .i64 a0_4, .int .i64 a0_5, .bool a0_6, .bool a0_7, .slice A0_8 l0_8.length c0_8], .agg #[.int .i64 a1_0, .int .i64 a1_1, .int .i64 a1_2, .int .i64 a1_3, .int .i64 a1_4, .int .i64 a1_5, .bool a1_6, .bool a1_7, .slice A1_8 l1_8.length c1_8]] w fun e w' => e = .returned (.bool r) ∧ Below w.heap.size w w' := by
 have hu37 := Try.underlying37
 have HR0_8 := mk_ hr0_8
 have HC0_8 := mk_ hc0_8
 clear hr0_8 hc0_8
 have HR1_8 := mk_ hr1_8
 have HC1_8 := mk_ hc1_8
 clear hr1_8 hc1_8
 have HB := mk_ (Below.refl w.heap.size w)
 have H := h
 unfold laws_eqPacket.f at H
 clear h
 by_cases c3 : a0_0 = a1_0
 rotate_left
 focus
  rw [if_neg c3] at H
  have c3b0 : (a0_0 == a1_0) = false := beq_eq_false_iff_ne.mpr c3
  have c3b1 : (a0_0 != a1_0) = true := bne_iff_ne.mpr c3
  obtain rfl := Option.some.inj H
 rotate_left
 focus
  rw [if_pos c3] at H
  have c3b0 : (a0_0 == a1_0) = true := beq_iff_eq.mpr c3
  have c3b1 : (a0_0 != a1_0) = false := bne_eq_false_iff_eq.mpr c3
  clear c3
  by_cases c4 : a0_1 = a1_1
  rotate_left
  focus
   rw [if_neg c4] at H
   have c4b0 : (a0_1 == a1_1) = false := beq_eq_false_iff_ne.mpr c4
   have c4b1 : (a0_1 != a1_1) = true := bne_iff_ne.mpr c4
   obtain rfl := Option.some.inj H
  rotate_left
  focus
   rw [if_pos c4] at H
   have c4b0 : (a0_1 == a1_1) = true := beq_iff_eq.mpr c4
   have c4b1 : (a0_1 != a1_1) = false := bne_eq_false_iff_eq.mpr c4
   clear c4
   by_cases c5 : a0_2 = a1_2
   rotate_left
   focus
    rw [if_neg c5] at H
    have c5b0 : (a0_2 == a1_2) = false := beq_eq_false_iff_ne.mpr c5
    have c5b1 : (a0_2 != a1_2) = true := bne_iff_ne.mpr c5
    obtain rfl := Option.some.inj H
   rotate_left
   focus
    rw [if_pos c5] at H
    have c5b0 : (a0_2 == a1_2) = true := beq_iff_eq.mpr c5
    have c5b1 : (a0_2 != a1_2) = false := bne_eq_false_iff_eq.mpr c5
    clear c5
    by_cases c6 : a0_3 = a1_3
    rotate_left
    focus
     rw [if_neg c6] at H
     have c6b0 : (a0_3 == a1_3) = false := beq_eq_false_iff_ne.mpr c6
     have c6b1 : (a0_3 != a1_3) = true := bne_iff_ne.mpr c6
     obtain rfl := Option.some.inj H
    rotate_left
    focus
     rw [if_pos c6] at H
     have c6b0 : (a0_3 == a1_3) = true := beq_iff_eq.mpr c6
     have c6b1 : (a0_3 != a1_3) = false := bne_eq_false_iff_eq.mpr c6
     clear c6
     by_cases c7 : a0_4 = a1_4
     rotate_left
     focus
      rw [if_neg c7] at H
      have c7b0 : (a0_4 == a1_4) = false := beq_eq_false_iff_ne.mpr c7
      have c7b1 : (a0_4 != a1_4) = true := bne_iff_ne.mpr c7
      obtain rfl := Option.some.inj H
     rotate_left
     focus
      rw [if_pos c7] at H
      have c7b0 : (a0_4 == a1_4) = true := beq_iff_eq.mpr c7
      have c7b1 : (a0_4 != a1_4) = false := bne_eq_false_iff_eq.mpr c7
      clear c7
      by_cases c8 : a0_5 = a1_5
      rotate_left
      focus
       rw [if_neg c8] at H
       have c8b0 : (a0_5 == a1_5) = false := beq_eq_false_iff_ne.mpr c8
       have c8b1 : (a0_5 != a1_5) = true := bne_iff_ne.mpr c8
       obtain rfl := Option.some.inj H
      rotate_left
      focus
       rw [if_pos c8] at H
       have c8b0 : (a0_5 == a1_5) = true := beq_iff_eq.mpr c8
       have c8b1 : (a0_5 != a1_5) = false := bne_eq_false_iff_eq.mpr c8
       clear c8
       by_cases c9 : (a0_6 != a1_6) = true
       focus
        rw [if_pos c9] at H
        have c9b0 : (a0_6 != a1_6) = true := c9
        (try (have c9b1 : decide (a0_6 = a1_6) = false := by simpa using c9))
        (try (have c9b2 : (a0_6 == a1_6) = false := by simpa using c9))
        (try (have c9b3 : ¬ (a0_6 = a1_6) := by simpa using c9))
        clear c9
        obtain rfl := Option.some.inj H
       rotate_left
       focus
        rw [if_neg c9] at H
        have c9b0 : (a0_6 != a1_6) = false := by simpa using c9
        (try (have c9b1 : decide (a0_6 = a1_6) = true := by simpa using c9))
        (try (have c9b2 : (a0_6 == a1_6) = true := by simpa using c9))
        clear c9
        by_cases c15 : (a0_7 != a1_7) = true
        focus
         rw [if_pos c15] at H
         have c15b0 : (a0_7 != a1_7) = true := c15
         (try (have c15b1 : decide (a0_7 = a1_7) = false := by simpa using c15))
         (try (have c15b2 : (a0_7 == a1_7) = false := by simpa using c15))
         (try (have c15b3 : ¬ (a0_7 = a1_7) := by simpa using c15))
         clear c15
         obtain rfl := Option.some.inj H
        rotate_left
        focus
         rw [if_neg c15] at H
         have c15b0 : (a0_7 != a1_7) = false := by simpa using c15
         (try (have c15b1 : decide (a0_7 = a1_7) = true := by simpa using c15))
         (try (have c15b2 : (a0_7 == a1_7) = true := by simpa using c15))
         clear c15
         replace H := Option.bind_eq_some_iff.mp H
         obtain ⟨t355, A210, H⟩ := H
         replace H : (if t355 = true then (some true) else (some false)) = some r := H
         have A21 := mk_ A210
         clear A210
         by_cases c22 : t355 = true
         focus
          subst c22
          have H1 : (some true) = some r := by rw [if_pos rfl] at H; exact H
          clear H
          have H := H1
          clear H1
          obtain rfl := Option.some.inj H
         rotate_left
         focus
          replace c22 := Bool.eq_false_iff.mpr c22
          subst c22
          have H1 : (some false) = some r := by rw [if_neg (show ¬ (false = true) by decide)] at H; exact H
          clear H
          have H := H1
          clear H1
          obtain rfl := Option.some.inj H
         rotate_left
        rotate_left 2
       rotate_left 3
      rotate_left 4
     rotate_left 5
    rotate_left 6
   rotate_left 7
  rotate_left 8
 rotate_left 9
 all_goals
  go_enter Try.func28, Try.ntmps28
 ·go_wp2_with (first | ((with_reducible refine gate_dst (N := 2) rfl ?_); refine box_event ?hg (N := 2) ?hd (cs := #[.int .i64 a0_0, .int .i64 a0_1, .int .i64 a0_2, .int .i64 a0_3, .int .i64 a0_4, .int .i64 a0_5, .bool a0_6, .bool a0_7, .slice A0_8 l0_8.length c0_8]) (t := 37) ?hr ?_; (case hd => rfl); (case hg => rfl); (case hr => first | (go_simp; done) | (go_simp; rfl)); intro gb980 hg w981 hbox hb; have n0_ := mk_ (below_step (ub_ HB.out) hb); have BK353 := mk_ (hbox); have GW353 := mk_ ((by rw [hg]; exact (below_size (ub_ HB.out)) : w.heap.size ≤ gb980)); have GE353 := ge_ ((by rw [hg]; exact (below_size (ub_ HB.out)) : w.heap.size ≤ gb980)); replace HB := n0_; clear n0_; clear hb hbox hg) | ((with_reducible refine gate_dst (N := 3) rfl ?_); refine box_event ?hg (N := 3) ?hd (cs := #[.int .i64 a1_0, .int .i64 a1_1, .int .i64 a1_2, .int .i64 a1_3, .int .i64 a1_4, .int .i64 a1_5, .bool a1_6, .bool a1_7, .slice A1_8 l1_8.length c1_8]) (t := 37) ?hr ?_; (case hd => rfl); (case hg => rfl); (case hr => first | (go_simp; done) | (go_simp; rfl)); intro gb1020 hg w1021 hbox hb; have n0_ := mk_ (blk_below (u_ BK353.out) hb); have n1_ := mk_ (below_step (us_ HB.out) hb); have BK354 := mk_ (hbox); have GW354 := mk_ ((by rw [hg]; exact (below_size (us_ HB.out)) : w.heap.size ≤ gb1020)); have GE354 := ge_ ((by rw [hg]; exact (below_size (us_ HB.out)) : w.heap.size ≤ gb1020)); have NB353_354 := nq_ ((by rw [hg]; exact Nat.ne_of_lt (blk_lt (u_ BK353.out)) : gb980 ≠ gb1020)); have NB354_353 := nq_ ((by rw [hg]; exact Nat.ne_of_gt (blk_lt (u_ BK353.out)) : gb1020 ≠ gb980)); replace BK353 := n0_; replace HB := n1_; clear n0_ n1_; clear hb hbox hg; have hnb1022 := NB353_354.out; have hnc1022 := NB354_353.out; obtain ⟨_, _, _, _, _, _, _, _, _, _, _, _, _, _, _, _, _, _⟩ := cells9_ BK353.out; obtain ⟨_, _, _, _, _, _, _, _, _, _, _, _, _, _, _, _, _, _⟩ := cells9_ BK354.out))
  go_ret
  exact ⟨by first | rfl | (simp [errW_none, errW_some] <;> rfl) | (simp [*, errW_none, errW_some] <;> rfl), us_ HB.out⟩
 ·go_wp2_with (first | ((with_reducible refine gate_dst (N := 2) rfl ?_); refine box_event ?hg (N := 2) ?hd (cs := #[.int .i64 a0_0, .int .i64 a0_1, .int .i64 a0_2, .int .i64 a0_3, .int .i64 a0_4, .int .i64 a0_5, .bool a0_6, .bool a0_7, .slice A0_8 l0_8.length c0_8]) (t := 37) ?hr ?_; (case hd => rfl); (case hg => rfl); (case hr => first | (go_simp; done) | (go_simp; rfl)); intro gb980 hg w981 hbox hb; have n0_ := mk_ (below_step (ub_ HB.out) hb); have BK353 := mk_ (hbox); have GW353 := mk_ ((by rw [hg]; exact (below_size (ub_ HB.out)) : w.heap.size ≤ gb980)); have GE353 := ge_ ((by rw [hg]; exact (below_size (ub_ HB.out)) : w.heap.size ≤ gb980)); replace HB := n0_; clear n0_; clear hb hbox hg) | ((with_reducible refine gate_dst (N := 3) rfl ?_); refine box_event ?hg (N := 3) ?hd (cs := #[.int .i64 a1_0, .int .i64 a1_1, .int .i64 a1_2, .int .i64 a1_3, .int .i64 a1_4, .int .i64 a1_5, .bool a1_6, .bool a1_7, .slice A1_8 l1_8.length c1_8]) (t := 37) ?hr ?_; (case hd => rfl); (case hg => rfl); (case hr => first | (go_simp; done) | (go_simp; rfl)); intro gb1020 hg w1021 hbox hb; have n0_ := mk_ (blk_below (u_ BK353.out) hb); have n1_ := mk_ (below_step (us_ HB.out) hb); have BK354 := mk_ (hbox); have GW354 := mk_ ((by rw [hg]; exact (below_size (us_ HB.out)) : w.heap.size ≤ gb1020)); have GE354 := ge_ ((by rw [hg]; exact (below_size (us_ HB.out)) : w.heap.size ≤ gb1020)); have NB353_354 := nq_ ((by rw [hg]; exact Nat.ne_of_lt (blk_lt (u_ BK353.out)) : gb980 ≠ gb1020)); have NB354_353 := nq_ ((by rw [hg]; exact Nat.ne_of_gt (blk_lt (u_ BK353.out)) : gb1020 ≠ gb980)); replace BK353 := n0_; replace HB := n1_; clear n0_ n1_; clear hb hbox hg; have hnb1022 := NB353_354.out; have hnc1022 := NB354_353.out; obtain ⟨_, _, _, _, _, _, _, _, _, _, _, _, _, _, _, _, _, _⟩ := cells9_ BK353.out; obtain ⟨hcz1023_0, hcz1023_1, hcz1023_2, hcz1023_3, hcz1023_4, hcz1023_5, hcz1023_6, hcz1023_7, hcz1023_8, hfz1023_0, hfz1023_1, hfz1023_2, hfz1023_3, hfz1023_4, hfz1023_5, hfz1023_6, hfz1023_7, hfz1023_8⟩ := cells9_ BK354.out))
  go_ret
  exact ⟨by first | rfl | (simp [errW_none, errW_some] <;> rfl) | (simp [*, errW_none, errW_some] <;> rfl), us_ HB.out⟩
 iterate 2
  focus
   go_wp2_with (first | ((with_reducible refine gate_dst (N := 2) rfl ?_); refine box_event ?hg (N := 2) ?hd (cs := #[.int .i64 a0_0, .int .i64 a0_1, .int .i64 a0_2, .int .i64 a0_3, .int .i64 a0_4, .int .i64 a0_5, .bool a0_6, .bool a0_7, .slice A0_8 l0_8.length c0_8]) (t := 37) ?hr ?_; (case hd => rfl); (case hg => rfl); (case hr => first | (go_simp; done) | (go_simp; rfl)); intro gb980 hg w981 hbox hb; have n0_ := mk_ (below_step (ub_ HB.out) hb); have BK353 := mk_ (hbox); have GW353 := mk_ ((by rw [hg]; exact (below_size (ub_ HB.out)) : w.heap.size ≤ gb980)); have GE353 := ge_ ((by rw [hg]; exact (below_size (ub_ HB.out)) : w.heap.size ≤ gb980)); replace HB := n0_; clear n0_; clear hb hbox hg) | ((with_reducible refine gate_dst (N := 3) rfl ?_); refine box_event ?hg (N := 3) ?hd (cs := #[.int .i64 a1_0, .int .i64 a1_1, .int .i64 a1_2, .int .i64 a1_3, .int .i64 a1_4, .int .i64 a1_5, .bool a1_6, .bool a1_7, .slice A1_8 l1_8.length c1_8]) (t := 37) ?hr ?_; (case hd => rfl); (case hg => rfl); (case hr => first | (go_simp; done) | (go_simp; rfl)); intro gb1020 hg w1021 hbox hb; have n0_ := mk_ (blk_below (u_ BK353.out) hb); have n1_ := mk_ (below_step (us_ HB.out) hb); have BK354 := mk_ (hbox); have GW354 := mk_ ((by rw [hg]; exact (below_size (us_ HB.out)) : w.heap.size ≤ gb1020)); have GE354 := ge_ ((by rw [hg]; exact (below_size (us_ HB.out)) : w.heap.size ≤ gb1020)); have NB353_354 := nq_ ((by rw [hg]; exact Nat.ne_of_lt (blk_lt (u_ BK353.out)) : gb980 ≠ gb1020)); have NB354_353 := nq_ ((by rw [hg]; exact Nat.ne_of_gt (blk_lt (u_ BK353.out)) : gb1020 ≠ gb980)); replace BK353 := n0_; replace HB := n1_; clear n0_ n1_; clear hb hbox hg; have hnb1022 := NB353_354.out; have hnc1022 := NB354_353.out; obtain ⟨_, _, _, _, _, _, _, _, _, _, _, _, _, _, _, _, _, _⟩ := cells9_ BK353.out; obtain ⟨_, _, _, _, _, _, _, _, _, _, _, _, _, _, _, _, _, _⟩ := cells9_ BK354.out))
   go_ret
   exact ⟨by first | rfl | (simp [errW_none, errW_some] <;> rfl) | (simp [*, errW_none, errW_some] <;> rfl), us_ HB.out⟩
 ·go_wp2_with (first | ((with_reducible refine gate_dst (N := 2) rfl ?_); refine box_event ?hg (N := 2) ?hd (cs := #[.int .i64 a0_0, .int .i64 a0_1, .int .i64 a0_2, .int .i64 a0_3, .int .i64 a0_4, .int .i64 a0_5, .bool a0_6, .bool a0_7, .slice A0_8 l0_8.length c0_8]) (t := 37) ?hr ?_; (case hd => rfl); (case hg => rfl); (case hr => first | (go_simp; done) | (go_simp; rfl)); intro gb980 hg w981 hbox hb; have n0_ := mk_ (below_step (ub_ HB.out) hb); have BK353 := mk_ (hbox); have GW353 := mk_ ((by rw [hg]; exact (below_size (ub_ HB.out)) : w.heap.size ≤ gb980)); have GE353 := ge_ ((by rw [hg]; exact (below_size (ub_ HB.out)) : w.heap.size ≤ gb980)); replace HB := n0_; clear n0_; clear hb hbox hg) | ((with_reducible refine gate_dst (N := 3) rfl ?_); refine box_event ?hg (N := 3) ?hd (cs := #[.int .i64 a1_0, .int .i64 a1_1, .int .i64 a1_2, .int .i64 a1_3, .int .i64 a1_4, .int .i64 a1_5, .bool a1_6, .bool a1_7, .slice A1_8 l1_8.length c1_8]) (t := 37) ?hr ?_; (case hd => rfl); (case hg => rfl); (case hr => first | (go_simp; done) | (go_simp; rfl)); intro gb1020 hg w1021 hbox hb; have n0_ := mk_ (blk_below (u_ BK353.out) hb); have n1_ := mk_ (below_step (us_ HB.out) hb); have BK354 := mk_ (hbox); have GW354 := mk_ ((by rw [hg]; exact (below_size (us_ HB.out)) : w.heap.size ≤ gb1020)); have GE354 := ge_ ((by rw [hg]; exact (below_size (us_ HB.out)) : w.heap.size ≤ gb1020)); have NB353_354 := nq_ ((by rw [hg]; exact Nat.ne_of_lt (blk_lt (u_ BK353.out)) : gb980 ≠ gb1020)); have NB354_353 := nq_ ((by rw [hg]; exact Nat.ne_of_gt (blk_lt (u_ BK353.out)) : gb1020 ≠ gb980)); replace BK353 := n0_; replace HB := n1_; clear n0_ n1_; clear hb hbox hg; have hnb1022 := NB353_354.out; have hnc1022 := NB354_353.out; obtain ⟨_, _, _, _, _, _, _, _, _, _, _, _, _, _, _, _, _, _⟩ := cells9_ BK353.out; obtain ⟨hcz1023_0, hcz1023_1, hcz1023_2, hcz1023_3, hcz1023_4, hcz1023_5, hcz1023_6, hcz1023_7, hcz1023_8, hfz1023_0, hfz1023_1, hfz1023_2, hfz1023_3, hfz1023_4, hfz1023_5, hfz1023_6, hfz1023_7, hfz1023_8⟩ := cells9_ BK354.out))
  go_ret
  exact ⟨by first | rfl | (simp [errW_none, errW_some] <;> rfl) | (simp [*, errW_none, errW_some] <;> rfl), us_ HB.out⟩
 ·go_wp2_with (first | ((with_reducible refine gate_dst (N := 2) rfl ?_); refine box_event ?hg (N := 2) ?hd (cs := #[.int .i64 a0_0, .int .i64 a0_1, .int .i64 a0_2, .int .i64 a0_3, .int .i64 a0_4, .int .i64 a0_5, .bool a0_6, .bool a0_7, .slice A0_8 l0_8.length c0_8]) (t := 37) ?hr ?_; (case hd => rfl); (case hg => rfl); (case hr => first | (go_simp; done) | (go_simp; rfl)); intro gb980 hg w981 hbox hb; have n0_ := mk_ (below_step (ub_ HB.out) hb); have BK353 := mk_ (hbox); have GW353 := mk_ ((by rw [hg]; exact (below_size (ub_ HB.out)) : w.heap.size ≤ gb980)); have GE353 := ge_ ((by rw [hg]; exact (below_size (ub_ HB.out)) : w.heap.size ≤ gb980)); replace HB := n0_; clear n0_; clear hb hbox hg) | ((with_reducible refine gate_dst (N := 3) rfl ?_); refine box_event ?hg (N := 3) ?hd (cs := #[.int .i64 a1_0, .int .i64 a1_1, .int .i64 a1_2, .int .i64 a1_3, .int .i64 a1_4, .int .i64 a1_5, .bool a1_6, .bool a1_7, .slice A1_8 l1_8.length c1_8]) (t := 37) ?hr ?_; (case hd => rfl); (case hg => rfl); (case hr => first | (go_simp; done) | (go_simp; rfl)); intro gb1020 hg w1021 hbox hb; have n0_ := mk_ (blk_below (u_ BK353.out) hb); have n1_ := mk_ (below_step (us_ HB.out) hb); have BK354 := mk_ (hbox); have GW354 := mk_ ((by rw [hg]; exact (below_size (us_ HB.out)) : w.heap.size ≤ gb1020)); have GE354 := ge_ ((by rw [hg]; exact (below_size (us_ HB.out)) : w.heap.size ≤ gb1020)); have NB353_354 := nq_ ((by rw [hg]; exact Nat.ne_of_lt (blk_lt (u_ BK353.out)) : gb980 ≠ gb1020)); have NB354_353 := nq_ ((by rw [hg]; exact Nat.ne_of_gt (blk_lt (u_ BK353.out)) : gb1020 ≠ gb980)); replace BK353 := n0_; replace HB := n1_; clear n0_ n1_; clear hb hbox hg; have hnb1022 := NB353_354.out; have hnc1022 := NB354_353.out; obtain ⟨_, _, _, _, _, _, _, _, _, _, _, _, _, _, _, _, _, _⟩ := cells9_ BK353.out; obtain ⟨_, _, _, _, _, _, _, _, _, _, _, _, _, _, _, _, _, _⟩ := cells9_ BK354.out))
  go_ret
  exact ⟨by first | rfl | (simp [errW_none, errW_some] <;> rfl) | (simp [*, errW_none, errW_some] <;> rfl), us_ HB.out⟩
 iterate 2
  focus
   go_wp2_with (first | ((with_reducible refine gate_dst (N := 2) rfl ?_); refine box_event ?hg (N := 2) ?hd (cs := #[.int .i64 a0_0, .int .i64 a0_1, .int .i64 a0_2, .int .i64 a0_3, .int .i64 a0_4, .int .i64 a0_5, .bool a0_6, .bool a0_7, .slice A0_8 l0_8.length c0_8]) (t := 37) ?hr ?_; (case hd => rfl); (case hg => rfl); (case hr => first | (go_simp; done) | (go_simp; rfl)); intro gb980 hg w981 hbox hb; have n0_ := mk_ (below_step (ub_ HB.out) hb); have BK353 := mk_ (hbox); have GW353 := mk_ ((by rw [hg]; exact (below_size (ub_ HB.out)) : w.heap.size ≤ gb980)); have GE353 := ge_ ((by rw [hg]; exact (below_size (ub_ HB.out)) : w.heap.size ≤ gb980)); replace HB := n0_; clear n0_; clear hb hbox hg) | ((with_reducible refine gate_dst (N := 3) rfl ?_); refine box_event ?hg (N := 3) ?hd (cs := #[.int .i64 a1_0, .int .i64 a1_1, .int .i64 a1_2, .int .i64 a1_3, .int .i64 a1_4, .int .i64 a1_5, .bool a1_6, .bool a1_7, .slice A1_8 l1_8.length c1_8]) (t := 37) ?hr ?_; (case hd => rfl); (case hg => rfl); (case hr => first | (go_simp; done) | (go_simp; rfl)); intro gb1020 hg w1021 hbox hb; have n0_ := mk_ (blk_below (u_ BK353.out) hb); have n1_ := mk_ (below_step (us_ HB.out) hb); have BK354 := mk_ (hbox); have GW354 := mk_ ((by rw [hg]; exact (below_size (us_ HB.out)) : w.heap.size ≤ gb1020)); have GE354 := ge_ ((by rw [hg]; exact (below_size (us_ HB.out)) : w.heap.size ≤ gb1020)); have NB353_354 := nq_ ((by rw [hg]; exact Nat.ne_of_lt (blk_lt (u_ BK353.out)) : gb980 ≠ gb1020)); have NB354_353 := nq_ ((by rw [hg]; exact Nat.ne_of_gt (blk_lt (u_ BK353.out)) : gb1020 ≠ gb980)); replace BK353 := n0_; replace HB := n1_; clear n0_ n1_; clear hb hbox hg; have hnb1022 := NB353_354.out; have hnc1022 := NB354_353.out; obtain ⟨_, _, _, _, _, _, _, _, _, _, _, _, _, _, _, _, _, _⟩ := cells9_ BK353.out; obtain ⟨hcz1023_0, hcz1023_1, hcz1023_2, hcz1023_3, hcz1023_4, hcz1023_5, hcz1023_6, hcz1023_7, hcz1023_8, hfz1023_0, hfz1023_1, hfz1023_2, hfz1023_3, hfz1023_4, hfz1023_5, hfz1023_6, hfz1023_7, hfz1023_8⟩ := cells9_ BK354.out))
   go_ret
   exact ⟨by first | rfl | (simp [errW_none, errW_some] <;> rfl) | (simp [*, errW_none, errW_some] <;> rfl), us_ HB.out⟩
 ·go_wp2_with (first | ((with_reducible refine gate_dst (N := 2) rfl ?_); refine box_event ?hg (N := 2) ?hd (cs := #[.int .i64 a0_0, .int .i64 a0_1, .int .i64 a0_2, .int .i64 a0_3, .int .i64 a0_4, .int .i64 a0_5, .bool a0_6, .bool a0_7, .slice A0_8 l0_8.length c0_8]) (t := 37) ?hr ?_; (case hd => rfl); (case hg => rfl); (case hr => first | (go_simp; done) | (go_simp; rfl)); intro gb980 hg w981 hbox hb; have n0_ := mk_ (below_step (ub_ HB.out) hb); have BK353 := mk_ (hbox); have GW353 := mk_ ((by rw [hg]; exact (below_size (ub_ HB.out)) : w.heap.size ≤ gb980)); have GE353 := ge_ ((by rw [hg]; exact (below_size (ub_ HB.out)) : w.heap.size ≤ gb980)); replace HB := n0_; clear n0_; clear hb hbox hg) | ((with_reducible refine gate_dst (N := 3) rfl ?_); refine box_event ?hg (N := 3) ?hd (cs := #[.int .i64 a1_0, .int .i64 a1_1, .int .i64 a1_2, .int .i64 a1_3, .int .i64 a1_4, .int .i64 a1_5, .bool a1_6, .bool a1_7, .slice A1_8 l1_8.length c1_8]) (t := 37) ?hr ?_; (case hd => rfl); (case hg => rfl); (case hr => first | (go_simp; done) | (go_simp; rfl)); intro gb1020 hg w1021 hbox hb; have n0_ := mk_ (blk_below (u_ BK353.out) hb); have n1_ := mk_ (below_step (us_ HB.out) hb); have BK354 := mk_ (hbox); have GW354 := mk_ ((by rw [hg]; exact (below_size (us_ HB.out)) : w.heap.size ≤ gb1020)); have GE354 := ge_ ((by rw [hg]; exact (below_size (us_ HB.out)) : w.heap.size ≤ gb1020)); have NB353_354 := nq_ ((by rw [hg]; exact Nat.ne_of_lt (blk_lt (u_ BK353.out)) : gb980 ≠ gb1020)); have NB354_353 := nq_ ((by rw [hg]; exact Nat.ne_of_gt (blk_lt (u_ BK353.out)) : gb1020 ≠ gb980)); replace BK353 := n0_; replace HB := n1_; clear n0_ n1_; clear hb hbox hg; have hnb1022 := NB353_354.out; have hnc1022 := NB354_353.out; obtain ⟨hcz1023_0, hcz1023_1, hcz1023_2, _, _, _, _, _, _, hfz1023_0, hfz1023_1, hfz1023_2, _, _, _, _, _, _⟩ := cells9_ BK353.out; obtain ⟨_, _, _, _, _, _, _, _, _, _, _, _, _, _, _, _, _, _⟩ := cells9_ BK354.out) | ((with_reducible refine gate_callee (f := 72) rfl ?_); refine goesL_ (some 49) rfl rfl Try.func72 (by kernel_rfl) rfl #[.slice A0_8 l0_8.length c0_8, .slice A1_8 l1_8.length c1_8] rfl (by (try simp only [lm_, lo_, ln_]); try rfl) ?_; (with_reducible refine (laws_eqByteS.calls k _ _ l0_8 _ _ l1_8 true _ ?side1 ?side2 ?side3 ?side4 A21.out).mono ?_); (case side1 => repeat (first | exact (Kd.C_below HR0_8.out HB.out) | (with_reducible refine Kd.C_alloc ?_ _) | (with_reducible refine Kd.C_drewN ?_ _) | (with_reducible refine Kd.C_drew ?_))); (case side2 => exact HC0_8.out); (case side3 => repeat (first | exact (Kd.C_below HR1_8.out HB.out) | (with_reducible refine Kd.C_alloc ?_ _) | (with_reducible refine Kd.C_drewN ?_ _) | (with_reducible refine Kd.C_drew ?_))); (case side4 => exact HC1_8.out); rintro e w' ⟨rfl, ⟨nd, rfl⟩⟩; refine ⟨_, rfl, ?_⟩))
  go_ret
  exact ⟨by first | rfl | (simp [errW_none, errW_some] <;> rfl) | (simp [*, errW_none, errW_some] <;> rfl), us_ HB.out⟩
 ·go_wp2_with (first | ((with_reducible refine gate_dst (N := 2) rfl ?_); refine box_event ?hg (N := 2) ?hd (cs := #[.int .i64 a0_0, .int .i64 a0_1, .int .i64 a0_2, .int .i64 a0_3, .int .i64 a0_4, .int .i64 a0_5, .bool a0_6, .bool a0_7, .slice A0_8 l0_8.length c0_8]) (t := 37) ?hr ?_; (case hd => rfl); (case hg => rfl); (case hr => first | (go_simp; done) | (go_simp; rfl)); intro gb980 hg w981 hbox hb; have n0_ := mk_ (below_step (ub_ HB.out) hb); have BK353 := mk_ (hbox); have GW353 := mk_ ((by rw [hg]; exact (below_size (ub_ HB.out)) : w.heap.size ≤ gb980)); have GE353 := ge_ ((by rw [hg]; exact (below_size (ub_ HB.out)) : w.heap.size ≤ gb980)); replace HB := n0_; clear n0_; clear hb hbox hg) | ((with_reducible refine gate_dst (N := 3) rfl ?_); refine box_event ?hg (N := 3) ?hd (cs := #[.int .i64 a1_0, .int .i64 a1_1, .int .i64 a1_2, .int .i64 a1_3, .int .i64 a1_4, .int .i64 a1_5, .bool a1_6, .bool a1_7, .slice A1_8 l1_8.length c1_8]) (t := 37) ?hr ?_; (case hd => rfl); (case hg => rfl); (case hr => first | (go_simp; done) | (go_simp; rfl)); intro gb1020 hg w1021 hbox hb; have n0_ := mk_ (blk_below (u_ BK353.out) hb); have n1_ := mk_ (below_step (us_ HB.out) hb); have BK354 := mk_ (hbox); have GW354 := mk_ ((by rw [hg]; exact (below_size (us_ HB.out)) : w.heap.size ≤ gb1020)); have GE354 := ge_ ((by rw [hg]; exact (below_size (us_ HB.out)) : w.heap.size ≤ gb1020)); have NB353_354 := nq_ ((by rw [hg]; exact Nat.ne_of_lt (blk_lt (u_ BK353.out)) : gb980 ≠ gb1020)); have NB354_353 := nq_ ((by rw [hg]; exact Nat.ne_of_gt (blk_lt (u_ BK353.out)) : gb1020 ≠ gb980)); replace BK353 := n0_; replace HB := n1_; clear n0_ n1_; clear hb hbox hg; have hnb1022 := NB353_354.out; have hnc1022 := NB354_353.out; obtain ⟨_, _, _, _, _, _, _, _, _, _, _, _, _, _, _, _, _, _⟩ := cells9_ BK353.out; obtain ⟨_, _, _, _, _, _, _, _, _, _, _, _, _, _, _, _, _, _⟩ := cells9_ BK354.out) | ((with_reducible refine gate_callee (f := 72) rfl ?_); refine goesL_ (some 49) rfl rfl Try.func72 (by kernel_rfl) rfl #[.slice A0_8 l0_8.length c0_8, .slice A1_8 l1_8.length c1_8] rfl (by (try simp only [lm_, lo_, ln_]); try rfl) ?_; (with_reducible refine (laws_eqByteS.calls k _ _ l0_8 _ _ l1_8 false _ ?side1 ?side2 ?side3 ?side4 A21.out).mono ?_); (case side1 => repeat (first | exact (Kd.C_below HR0_8.out HB.out) | (with_reducible refine Kd.C_alloc ?_ _) | (with_reducible refine Kd.C_drewN ?_ _) | (with_reducible refine Kd.C_drew ?_))); (case side2 => exact HC0_8.out); (case side3 => repeat (first | exact (Kd.C_below HR1_8.out HB.out) | (with_reducible refine Kd.C_alloc ?_ _) | (with_reducible refine Kd.C_drewN ?_ _) | (with_reducible refine Kd.C_drew ?_))); (case side4 => exact HC1_8.out); rintro e w' ⟨rfl, ⟨nd, rfl⟩⟩; refine ⟨_, rfl, ?_⟩))
  go_ret
  exact ⟨by first | rfl | (simp [errW_none, errW_some] <;> rfl) | (simp [*, errW_none, errW_some] <;> rfl), us_ HB.out⟩

end Go.Proofs.Ytkkibccnpkbbjab.MFnExactNoteAbout
