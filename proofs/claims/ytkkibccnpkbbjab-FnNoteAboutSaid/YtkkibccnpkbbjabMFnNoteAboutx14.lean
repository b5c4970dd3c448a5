/- Functions that the law FnNoteAbout reaches, each with the proof that the machine's call comes to just its answer; no conditions but those that each theorem states. Printed by a program of this session over the kit's print. -/
import Derived.Test.YtkkibccnpkbbjabMFnNoteAboutx0
import Derived.Test.YtkkibccnpkbbjabMFnNoteAboutx5
import Derived.Test.YtkkibccnpkbbjabMFnNoteAboutx6
import Derived.Test.YtkkibccnpkbbjabMFnNoteAboutx11
import Derived.Test.YtkkibccnpkbbjabMFnNoteAboutx12
import Derived.Test.YtkkibccnpkbbjabMFnNoteAboutx13
namespace Go.Proofs.Ytkkibccnpkbbjab.MFnNoteAbout
open Go.RowKit Go.Proofs.YtkkibccnpkbbjabV.PrintWords Go.Proofs.YtkkibccnpkbbjabV.PrintLast Go.Proofs.YtkkibccnpkbbjabV.PrintMore
attribute [local go_sem] max2_int min2_int max_two min_two max_three min_three max_four min_four   -- for this text's walks alone
set_option linter.unusedVariables false
set_option linter.unusedSimpArgs false

/-! ### spec_NoteFault: function 69 -/
def spec_NoteFault.f (k : Nat) (a0_0 : Int) (a0_1 : Int) (a0_2 : Int) (a0_3 : Int) (a0_4 : Int) (a0_5 : Int) (a0_6 : Bool) (a0_7 : Bool) (l0_8 : List Int) : Option (Bool) := (spec_NoteFrom.f k l0_8).bind fun bt498 => (if bt498.2.2.2 = true then (if a0_2 = 1 then (some (decide (bt498.1 ≥ 3))) else (some false)) else (some false))
theorem spec_NoteFault.mono : ∀ a0 a1 a2 a3 a4 a5 a6 a7 a8 k, LeO (spec_NoteFault.f k a0 a1 a2 a3 a4 a5 a6 a7 a8) (spec_NoteFault.f (k + 1) a0 a1 a2 a3 a4 a5 a6 a7 a8) := by
 intro a0 a1 a2 a3 a4 a5 a6 a7 a8 k
 unfold spec_NoteFault.f
 repeat' first
   | (with_reducible exact spec_NoteFrom.mono _ _)
   | (with_reducible exact LeO.refl _)
   | (with_reducible exact LeO.none _)
   | (with_reducible refine LeO.ite ?_ ?_)
   | (with_reducible refine LeO.bind ?_ (fun _ => ?_))
   | exact spec_NoteFrom.mono _ _
   | exact LeO.none _
   | refine LeO.ite ?_ ?_
   | refine LeO.bind ?_ (fun _ => ?_)
set_option maxHeartbeats 8000000 in
set_option maxRecDepth 100000 in
theorem spec_NoteFault.calls (k : Nat) (a0_0 : Int) (a0_1 : Int) (a0_2 : Int) (a0_3 : Int) (a0_4 : Int) (a0_5 : Int) (a0_6 : Bool) (a0_7 : Bool) (A0_8 : Option Addr) (c0_8 : Nat) (l0_8 : List Int) (r : Bool) (w : World) (hr0_8 : Kd.C (Kd.int .u8) w A0_8 l0_8.length l0_8) (hc0_8 : l0_8.length ≤ c0_8) (h : spec_NoteFault.f k a0_0 a0_1 a0_2 a0_3 a0_4 a0_5 a0_6 a0_7 l0_8 = some r) :
  Calls Try.prog 69 #[.agg #[.int .i64 a0_0, .int .i64 a0_1, .int .i64 a0_2, .int .i64 a0_3, .int .i64 a0_4, .int .i64 a0_5, .bool a0_6, .bool a0_7, .slice A0_8 l0_8.length c0_8]] w fun e w' => e = .returned (.bool r) ∧ Below w.heap.size w w' := by
 have hu37 := Try.underlying37
 have hu44 := Try.underlying44
 have HR0_8 := mk_ hr0_8
 have HC0_8 := mk_ hc0_8
 clear hr0_8 hc0_8
 have HB := mk_ (Below.refl w.heap.size w)
 have H := h
 unfold spec_NoteFault.f at H
 clear h
 replace H := Option.bind_eq_some_iff.mp H
 obtain ⟨⟨t498, t499, t500, t503⟩, A20, H⟩ := H
 (try dsimp only at H)
 have A2 := mk_ A20
 clear A20
 by_cases c3 : t503 = true
 rotate_left
 focus
  replace c3 := Bool.eq_false_iff.mpr c3
  subst c3
  have H1 : (some false) = some r := by rw [if_neg (show ¬ (false = true) by decide)] at H; exact H
  clear H
  have H := H1
  clear H1
  obtain rfl := Option.some.inj H
 rotate_left
 focus
  subst c3
  rw [if_pos rfl] at H
  by_cases c4 : a0_2 = 1
  rotate_left
  focus
   rw [if_neg c4] at H
   have c4b0 : (a0_2 == 1) = false := beq_eq_false_iff_ne.mpr c4
   have c4b1 : (a0_2 != 1) = true := bne_iff_ne.mpr c4
   obtain rfl := Option.some.inj H
  rotate_left
  focus
   rw [if_pos c4] at H
   have c4b0 : (a0_2 == 1) = true := beq_iff_eq.mpr c4
   have c4b1 : (a0_2 != 1) = false := bne_eq_false_iff_eq.mpr c4
   clear c4
   obtain rfl := Option.some.inj H
  rotate_left
 rotate_left 2
 all_goals
  go_enter Try.func69, Try.ntmps69
  go_wp2_with (first | ((with_reducible refine gate_dst (N := 1) rfl ?_); refine box_event ?hg (N := 1) ?hd (cs := #[.int .i64 a0_0, .int .i64 a0_1, .int .i64 a0_2, .int .i64 a0_3, .int .i64 a0_4, .int .i64 a0_5, .bool a0_6, .bool a0_7, .slice A0_8 l0_8.length c0_8]) (t := 37) ?hr ?_; (case hd => rfl); (case hg => rfl); (case hr => first | (go_simp; done) | (go_simp; rfl)); intro gb2120 hg w2121 hbox hb; have n0_ := mk_ (below_step (ub_ HB.out) hb); have BK497 := mk_ (hbox); have GW497 := mk_ ((by rw [hg]; exact (below_size (ub_ HB.out)) : w.heap.size ≤ gb2120)); have GE497 := ge_ ((by rw [hg]; exact (below_size (ub_ HB.out)) : w.heap.size ≤ gb2120)); replace HB := n0_; clear n0_; clear hb hbox hg; obtain ⟨_, _, _, _, _, _, _, _, _, _, _, _, _, _, _, _, _, _⟩ := cells9_ BK497.out) | ((with_reducible refine gate_callee (f := 59) rfl ?_); refine goesL_ (some 8) rfl rfl Try.func59 (by kernel_rfl) rfl #[.slice A0_8 l0_8.length c0_8] rfl (by (try simp only [lm_, lo_, ln_]); try rfl) ?_; (with_reducible refine (spec_NoteFrom.calls k _ _ l0_8 t498 t499 t500 false _ ?side1 ?side2 A2.out).mono ?_); (case side1 => repeat (first | exact (Kd.C_below HR0_8.out HB.out) | (with_reducible refine Kd.C_alloc ?_ _) | (with_reducible refine Kd.C_drewN ?_ _) | (with_reducible refine Kd.C_drew ?_))); (case side2 => exact HC0_8.out); rintro e w18600 ⟨v18601, rfl, ho18602, hb⟩; refine ⟨_, rfl, ?_⟩; have HO502 := mk_ (Kd.R_lower ho18602 (below_size (us_ HB.out))); replace BK497 := mk_ (blk_below (u_ BK497.out) hb); replace HB := mk_ (below_step (us_ HB.out) hb)) | ((with_reducible refine gate_callee (f := 59) rfl ?_); refine goesL_ (some 8) rfl rfl Try.func59 (by kernel_rfl) rfl #[.slice A0_8 l0_8.length c0_8] rfl (by (try simp only [lm_, lo_, ln_]); try rfl) ?_; (with_reducible refine (spec_NoteFrom.calls k _ _ l0_8 t498 t499 t500 true _ ?side1 ?side2 A2.out).mono ?_); (case side1 => repeat (first | exact (Kd.C_below HR0_8.out HB.out) | (with_reducible refine Kd.C_alloc ?_ _) | (with_reducible refine Kd.C_drewN ?_ _) | (with_reducible refine Kd.C_drew ?_))); (case side2 => exact HC0_8.out); rintro e w18600 ⟨v18601, rfl, ho18602, hb⟩; refine ⟨_, rfl, ?_⟩; have HO502 := mk_ (Kd.R_lower ho18602 (below_size (us_ HB.out))); replace BK497 := mk_ (blk_below (u_ BK497.out) hb); replace HB := mk_ (below_step (us_ HB.out) hb)) | ((with_reducible refine gate_dst (N := 3) rfl ?_); refine box_event ?hg (N := 3) ?hd (cs := #[.int .i64 0, .int .i64 0, .slice none 0 0]) (t := 44) ?hr ?_; (case hd => rfl); (case hg => rfl); (case hr => first | (go_simp; done) | (go_simp; rfl)); intro gb18640 hg w18641 hbox hb; replace HO502 := mk_ (Kd.R_below (Kd.ur_ HO502.out) hb); have n1_ := mk_ (blk_below (u_ BK497.out) hb); have n2_ := mk_ (below_step (us_ HB.out) hb); have BK504 := mk_ (hbox); have GW504 := mk_ ((by rw [hg]; exact (below_size (us_ HB.out)) : w.heap.size ≤ gb18640)); have GE504 := ge_ ((by rw [hg]; exact (below_size (us_ HB.out)) : w.heap.size ≤ gb18640)); have NB497_504 := nq_ ((by rw [hg]; exact Nat.ne_of_lt (blk_lt (u_ BK497.out)) : gb2120 ≠ gb18640)); have NB504_497 := nq_ ((by rw [hg]; exact Nat.ne_of_gt (blk_lt (u_ BK497.out)) : gb18640 ≠ gb2120)); replace BK497 := n1_; replace HB := n2_; clear n1_ n2_; clear hb hbox hg; have hnb4410497504 := NB504_497.out; have hnc4410497504 := NB497_504.out; obtain ⟨_, _, _, _, _, _⟩ := cells3_ BK504.out; obtain ⟨Ao4410502, co4410502, eo4410502⟩ := Kd.R_slice HO502.out; subst eo4410502; obtain ⟨hcz4410497_0, hcz4410497_1, hcz4410497_2, hcz4410497_3, hcz4410497_4, hcz4410497_5, hcz4410497_6, hcz4410497_7, hcz4410497_8, hfz4410497_0, hfz4410497_1, hfz4410497_2, hfz4410497_3, hfz4410497_4, hfz4410497_5, hfz4410497_6, hfz4410497_7, hfz4410497_8⟩ := cells9_ BK497.out))
  go_ret
  exact ⟨by first | rfl | (simp [errW_none, errW_some] <;> rfl) | (simp [*, errW_none, errW_some] <;> rfl), us_ HB.out⟩

/-! ### spec_NoteAbout: function 25 -/
def spec_NoteAbout.f (k : Nat) (a0_0 : Int) (a0_1 : Int) (a0_2 : Int) (a0_3 : Int) (a0_4 : Int) (a0_5 : Int) (a0_6 : Bool) (a0_7 : Bool) (l0_8 : List Int) (a1 : Int) (a2 : Int) (a3 : Int) : Option (Int × Int × Int × Int × Int × Int × Bool × Bool × List Int × Bool) := (spec_PacketBytes.f k a0_0 a0_1 a0_2 a0_3 a0_4 a0_5 a0_6 a0_7 l0_8).bind fun t507 => (if 0 ≤ (mn (t507.length : Int) 20) then (if (mn (t507.length : Int) 20) ≤ (t507.length : Int) then ((spec_NoteBytes.f k a2 a3 (t507.take ((mn (t507.length : Int) 20) : Int).toNat)).bind fun t514 => ((spec_PacketOk.f a0_0 a0_1 a0_2 a0_3 a0_4 a0_5 a0_6 a0_7 l0_8).bind fun t517 => (if t517 = true then ((spec_l1In.f a1 0 65535).bind fun t518 => (if t518 = true then ((spec_l1In.f a2 3 6).bind fun t519 => (if t519 = true then (if (t514.length : Int) = 0 then (some (0, 0, 0, 0, 0, 0, false, false, ([] : List Int), false)) else ((spec_NoteFault.f k a0_0 a0_1 a0_2 a0_3 a0_4 a0_5 a0_6 a0_7 l0_8).bind fun t520 => (if t520 = true then (some (0, 0, 0, 0, 0, 0, false, false, ([] : List Int), false)) else (if a0_5 > 0 then (some (0, 0, 0, 0, 0, 0, false, false, ([] : List Int), false)) else (some (a1, a0_0, 1, 64, a0_4, 0, false, false, t514, true)))))) else (some (0, 0, 0, 0, 0, 0, false, false, ([] : List Int), false)))) else (some (0, 0, 0, 0, 0, 0, false, false, ([] : List Int), false)))) else (some (0, 0, 0, 0, 0, 0, false, false, ([] : List Int), false))))) else (none)) else (none))
theorem spec_NoteAbout.mono : ∀ a0 a1 a2 a3 a4 a5 a6 a7 a8 a9 a10 a11 k, LeO (spec_NoteAbout.f k a0 a1 a2 a3 a4 a5 a6 a7 a8 a9 a10 a11) (spec_NoteAbout.f (k + 1) a0 a1 a2 a3 a4 a5 a6 a7 a8 a9 a10 a11) := by
 intro a0 a1 a2 a3 a4 a5 a6 a7 a8 a9 a10 a11 k
 unfold spec_NoteAbout.f
 repeat' first
   | (with_reducible exact spec_NoteBytes.mono _ _ _ _)
   | (with_reducible exact spec_NoteFault.mono _ _ _ _ _ _ _ _ _ _)
   | (with_reducible exact spec_PacketBytes.mono _ _ _ _ _ _ _ _ _ _)
   | (with_reducible exact LeO.refl _)
   | (with_reducible exact LeO.none _)
   | (with_reducible refine LeO.ite ?_ ?_)
   | (with_reducible refine LeO.bind ?_ (fun _ => ?_))
   | exact spec_NoteBytes.mono _ _ _ _
   | exact spec_NoteFault.mono _ _ _ _ _ _ _ _ _ _
   | exact spec_PacketBytes.mono _ _ _ _ _ _ _ _ _ _
   | exact LeO.none _
   | refine LeO.ite ?_ ?_
   | refine LeO.bind ?_ (fun _ => ?_)
set_option maxHeartbeats 8000000 in
set_option maxRecDepth 100000 in
theorem spec_NoteAbout.calls (k : Nat) (a0_0 : Int) (a0_1 : Int) (a0_2 : Int) (a0_3 : Int) (a0_4 : Int) (a0_5 : Int) (a0_6 : Bool) (a0_7 : Bool) (A0_8 : Option Addr) (c0_8 : Nat) (l0_8 : List Int) (a1 : Int) (a2 : Int) (a3 : Int) (r1 : Int) (r2 : Int) (r3 : Int) (r4 : Int) (r5 : Int) (r6 : Int) (r7 : Bool) (r8 : Bool) (r9 : List Int) (r10 : Bool) (w : World) (hr0_8 : Kd.C (Kd.int .u8) w A0_8 l0_8.length l0_8) (hc0_8 : l0_8.length ≤ c0_8) (h : spec_NoteAbout.f k a0_0 a0_1 a0_2 a0_3 a0_4 a0_5 a0_6 a0_7 l0_8 a1 a2 a3 = some (r1, r2, r3, r4, r5, r6, r7, r8, r9, r10)) :
  Calls Try.prog 25 #[.agg #[.int .i64 a0_0, .int .i64 a0_1, .int .i64 a0_2, .int .i64 a0_3, .int .i64 a0_4, .int .i64 a0_5, .bool a0_6, .bool a0_7, .slice A0_8 l0_8.length c0_8], .int .i64 a1, .int .i64 a2, .int .i64 a3] w fun e w' => ∃ v8_ : Value, e = .returned (.tuple #[.agg #[.int .i64 r1, .int .i64 r2, .int .i64 r3, .int .i64 r4, .int .i64 r5, .int .i64 r6, .bool r7, .bool r8, v8_], .bool r10]) ∧ Kd.R (Kd.int .u8) 5 w' w.heap.size (fun _ => True) v8_ r9 ∧ Below w.heap.size w w' := by
 have hu37 := Try.underlying37
 have hu44 := Try.underlying44
 have HR0_8 := mk_ hr0_8
 have HC0_8 := mk_ hc0_8
 clear hr0_8 hc0_8
 have HB := mk_ (Below.refl w.heap.size w)
 have H := h
 unfold spec_NoteAbout.f at H
 clear h
 replace H := Option.bind_eq_some_iff.mp H
 obtain ⟨t507, A50, H⟩ := H
 (try dsimp only at H)
 have A5 := mk_ A50
 clear A50
 obtain ⟨ji6, hji6⟩ : ∃ j_ : Int, (mn (t507.length : Int) 20) = j_ := ⟨_, rfl⟩
 replace H : (if 0 ≤ (ji6) then (if (ji6) ≤ (t507.length : Int) then ((spec_NoteBytes.f k a2 a3 (t507.take ((ji6) : Int).toNat)).bind fun t514 => ((spec_PacketOk.f a0_0 a0_1 a0_2 a0_3 a0_4 a0_5 a0_6 a0_7 l0_8).bind fun t517 => (if t517 = true then ((spec_l1In.f a1 0 65535).bind fun t518 => (if t518 = true then ((spec_l1In.f a2 3 6).bind fun t519 => (if t519 = true then (if (t514.length : Int) = 0 then (some (0, 0, 0, 0, 0, 0, false, false, ([] : List Int), false)) else ((spec_NoteFault.f k a0_0 a0_1 a0_2 a0_3 a0_4 a0_5 a0_6 a0_7 l0_8).bind fun t520 => (if t520 = true then (some (0, 0, 0, 0, 0, 0, false, false, ([] : List Int), false)) else (if a0_5 > 0 then (some (0, 0, 0, 0, 0, 0, false, false, ([] : List Int), false)) else (some (a1, a0_0, 1, 64, a0_4, 0, false, false, t514, true)))))) else (some (0, 0, 0, 0, 0, 0, false, false, ([] : List Int), false)))) else (some (0, 0, 0, 0, 0, 0, false, false, ([] : List Int), false)))) else (some (0, 0, 0, 0, 0, 0, false, false, ([] : List Int), false))))) else (none)) else (none)) = some (r1, r2, r3, r4, r5, r6, r7, r8, r9, r10) := by first | (rw [hji6] at H; exact H) | (simp only [hji6] at H ⊢; exact H)
 (try rw [hji6] at A5)
 (try (have hji6h : ji6 ≤ 20 := by (rw [← hji6]; unfold mn; (repeat' split) <;> omega)))
 (try (have hji6g : ji6 ≤ 64 := by omega))
 (try (have hji6l : 0 ≤ ji6 := by (rw [← hji6]; unfold mn; (repeat' split) <;> omega)))
 (try (have hji6m : 0 ≤ ji6 := by omega))
 have hji6_ : (if 20 < (t507.length : Int) then 20 else (t507.length : Int)) = ji6 := hji6
 by_cases c7 : 0 ≤ (ji6)
 rotate_left
 ·rw [if_neg c7] at H
  exact absurd H (by simp)
 rw [if_pos c7] at H
 have c7b0 := eq_true c7
 have c7b1 : decide (0 ≤ (ji6)) = true := decide_eq_true c7
 clear c7
 by_cases c8 : (ji6) ≤ (t507.length : Int)
 rotate_left
 ·rw [if_neg c8] at H
  exact absurd H (by simp)
 rw [if_pos c8] at H
 have c8b0 := eq_true c8
 have c8b1 : decide ((ji6) ≤ (t507.length : Int)) = true := decide_eq_true c8
 clear c8
 obtain ⟨y510, hy510⟩ : ∃ y_ : List Int, y_ = (t507.take ((ji6) : Int).toNat) := ⟨_, rfl⟩
 replace H : ((spec_NoteBytes.f k a2 a3 y510).bind fun t514 => ((spec_PacketOk.f a0_0 a0_1 a0_2 a0_3 a0_4 a0_5 a0_6 a0_7 l0_8).bind fun t517 => (if t517 = true then ((spec_l1In.f a1 0 65535).bind fun t518 => (if t518 = true then ((spec_l1In.f a2 3 6).bind fun t519 => (if t519 = true then (if (t514.length : Int) = 0 then (some (0, 0, 0, 0, 0, 0, false, false, ([] : List Int), false)) else ((spec_NoteFault.f k a0_0 a0_1 a0_2 a0_3 a0_4 a0_5 a0_6 a0_7 l0_8).bind fun t520 => (if t520 = true then (some (0, 0, 0, 0, 0, 0, false, false, ([] : List Int), false)) else (if a0_5 > 0 then (some (0, 0, 0, 0, 0, 0, false, false, ([] : List Int), false)) else (some (a1, a0_0, 1, 64, a0_4, 0, false, false, t514, true)))))) else (some (0, 0, 0, 0, 0, 0, false, false, ([] : List Int), false)))) else (some (0, 0, 0, 0, 0, 0, false, false, ([] : List Int), false)))) else (some (0, 0, 0, 0, 0, 0, false, false, ([] : List Int), false))))) = some (r1, r2, r3, r4, r5, r6, r7, r8, r9, r10) := by first | (rw [hy510]; with_reducible exact H) | (have H2_ := (Option.bind_some _ _).symm.trans H; rw [hy510]; with_reducible exact H2_) | (have H2_ := (Option.bind_some _ _).symm.trans H; with_reducible exact H2_) | with_reducible exact H | (rw [hy510]; exact H) | exact H
 have Ny510 := mk_ hy510
 clear hy510
 replace H := Option.bind_eq_some_iff.mp H
 obtain ⟨t514, A90, H⟩ := H
 (try dsimp only at H)
 have A9 := mk_ A90
 clear A90
 replace H := Option.bind_eq_some_iff.mp H
 obtain ⟨t517, A100, H⟩ := H
 (try dsimp only at H)
 have A10 := mk_ A100
 clear A100
 by_cases c11 : t517 = true
 rotate_left
 focus
  replace c11 := Bool.eq_false_iff.mpr c11
  subst c11
  rw [if_neg (show ¬ (false = true) by decide)] at H
  simp only [Option.some.injEq, Prod.mk.injEq] at H
  obtain ⟨rfl, rfl, rfl, rfl, rfl, rfl, rfl, rfl, rfl, rfl⟩ := H
 rotate_left
 focus
  subst c11
  rw [if_pos rfl] at H
  replace H := Option.bind_eq_some_iff.mp H
  obtain ⟨t518, A120, H⟩ := H
  (try dsimp only at H)
  have A12 := mk_ A120
  clear A120
  by_cases c13 : t518 = true
  rotate_left
  focus
   replace c13 := Bool.eq_false_iff.mpr c13
   subst c13
   rw [if_neg (show ¬ (false = true) by decide)] at H
   simp only [Option.some.injEq, Prod.mk.injEq] at H
   obtain ⟨rfl, rfl, rfl, rfl, rfl, rfl, rfl, rfl, rfl, rfl⟩ := H
  rotate_left
  focus
   subst c13
   rw [if_pos rfl] at H
   replace H := Option.bind_eq_some_iff.mp H
   obtain ⟨t519, A140, H⟩ := H
   (try dsimp only at H)
   have A14 := mk_ A140
   clear A140
   by_cases c15 : t519 = true
   rotate_left
   focus
    replace c15 := Bool.eq_false_iff.mpr c15
    subst c15
    rw [if_neg (show ¬ (false = true) by decide)] at H
    simp only [Option.some.injEq, Prod.mk.injEq] at H
    obtain ⟨rfl, rfl, rfl, rfl, rfl, rfl, rfl, rfl, rfl, rfl⟩ := H
   rotate_left
   focus
    subst c15
    rw [if_pos rfl] at H
    by_cases c16 : (t514.length : Int) = 0
    focus
     rw [if_pos c16] at H
     have c16b0 : ((t514.length : Int) == 0) = true := beq_iff_eq.mpr c16
     have c16b1 : ((t514.length : Int) != 0) = false := bne_eq_false_iff_eq.mpr c16
     clear c16
     simp only [Option.some.injEq, Prod.mk.injEq] at H
     obtain ⟨rfl, rfl, rfl, rfl, rfl, rfl, rfl, rfl, rfl, rfl⟩ := H
    rotate_left
    focus
     rw [if_neg c16] at H
     have c16b0 : ((t514.length : Int) == 0) = false := beq_eq_false_iff_ne.mpr c16
     have c16b1 : ((t514.length : Int) != 0) = true := bne_iff_ne.mpr c16
     have c16b2 : ¬ (t514 = []) := fun h_ => c16 (by rw [h_]; rfl)
     replace H := Option.bind_eq_some_iff.mp H
     obtain ⟨t520, A290, H⟩ := H
     (try dsimp only at H)
     have A29 := mk_ A290
     clear A290
     by_cases c30 : t520 = true
     focus
      subst c30
      rw [if_pos rfl] at H
      simp only [Option.some.injEq, Prod.mk.injEq] at H
      obtain ⟨rfl, rfl, rfl, rfl, rfl, rfl, rfl, rfl, rfl, rfl⟩ := H
     rotate_left
     focus
      replace c30 := Bool.eq_false_iff.mpr c30
      subst c30
      rw [if_neg (show ¬ (false = true) by decide)] at H
      by_cases c45 : a0_5 > 0
      focus
       rw [if_pos c45] at H
       have c45b0 : decide (0 < a0_5) = true := decide_eq_true c45
       clear c45
       simp only [Option.some.injEq, Prod.mk.injEq] at H
       obtain ⟨rfl, rfl, rfl, rfl, rfl, rfl, rfl, rfl, rfl, rfl⟩ := H
      rotate_left
      focus
       rw [if_neg c45] at H
       have c45b0 : decide (0 < a0_5) = false := decide_eq_false c45
       clear c45
       simp only [Option.some.injEq, Prod.mk.injEq] at H
       obtain ⟨rfl, rfl, rfl, rfl, rfl, rfl, rfl, rfl, rfl, rfl⟩ := H
      rotate_left
     rotate_left 2
    rotate_left 3
   rotate_left 4
  rotate_left 5
 rotate_left 6
 all_goals
  go_enter Try.func25, Try.ntmps25
  go_wp2_with (first | ((with_reducible refine gate_dst (N := 4) rfl ?_); refine box_event ?hg (N := 4) ?hd (cs := #[.int .i64 a0_0, .int .i64 a0_1, .int .i64 a0_2, .int .i64 a0_3, .int .i64 a0_4, .int .i64 a0_5, .bool a0_6, .bool a0_7, .slice A0_8 l0_8.length c0_8]) (t := 37) ?hr ?_; (case hd => rfl); (case hg => rfl); (case hr => first | (go_simp; done) | (go_simp; rfl)); intro gb18680 hg w18681 hbox hb; have n0_ := mk_ (below_step (ub_ HB.out) hb); have BK505 := mk_ (hbox); have GW505 := mk_ ((by rw [hg]; exact (below_size (ub_ HB.out)) : w.heap.size ≤ gb18680)); have GE505 := ge_ ((by rw [hg]; exact (below_size (ub_ HB.out)) : w.heap.size ≤ gb18680)); replace HB := n0_; clear n0_; clear hb hbox hg) | ((with_reducible refine gate_dst (N := 8) rfl ?_); refine box_event ?hg (N := 8) ?hd (cs := #[.int .i64 0, .int .i64 0, .int .i64 0, .int .i64 0, .int .i64 0, .int .i64 0, .bool false, .bool false, .slice none 0 0]) (t := 37) ?hr ?_; (case hd => rfl); (case hg => rfl); (case hr => first | (go_simp; done) | (go_simp; rfl)); intro gb18720 hg w18721 hbox hb; have n0_ := mk_ (blk_below (u_ BK505.out) hb); have n1_ := mk_ (below_step (us_ HB.out) hb); have BK506 := mk_ (hbox); have GW506 := mk_ ((by rw [hg]; exact (below_size (us_ HB.out)) : w.heap.size ≤ gb18720)); have GE506 := ge_ ((by rw [hg]; exact (below_size (us_ HB.out)) : w.heap.size ≤ gb18720)); have NB505_506 := nq_ ((by rw [hg]; exact Nat.ne_of_lt (blk_lt (u_ BK505.out)) : gb18680 ≠ gb18720)); have NB506_505 := nq_ ((by rw [hg]; exact Nat.ne_of_gt (blk_lt (u_ BK505.out)) : gb18720 ≠ gb18680)); replace BK505 := n0_; replace HB := n1_; clear n0_ n1_; clear hb hbox hg; have hnb4430505506 := NB505_506.out; have hnc4430505506 := NB506_505.out; obtain ⟨hcz4430505_0, hcz4430505_1, hcz4430505_2, hcz4430505_3, hcz4430505_4, hcz4430505_5, hcz4430505_6, hcz4430505_7, hcz4430505_8, hfz4430505_0, hfz4430505_1, hfz4430505_2, hfz4430505_3, hfz4430505_4, hfz4430505_5, hfz4430505_6, hfz4430505_7, hfz4430505_8⟩ := cells9_ BK505.out) | ((with_reducible refine gate_callee (f := 68) rfl ?_); refine goesL_ (some 13) rfl rfl Try.func68 (by kernel_rfl) rfl #[.agg #[.int .i64 a0_0, .int .i64 a0_1, .int .i64 a0_2, .int .i64 a0_3, .int .i64 a0_4, .int .i64 a0_5, .bool a0_6, .bool a0_7, .slice A0_8 l0_8.length c0_8]] rfl (by (try simp only [lm_, lo_, ln_]); try rfl) ?_; (with_reducible refine (spec_PacketBytes.calls k a0_0 a0_1 a0_2 a0_3 a0_4 a0_5 a0_6 a0_7 _ _ l0_8 t507 _ ?side1 ?side2 A5.out).mono ?_); (case side1 => repeat (first | exact (Kd.C_below HR0_8.out HB.out) | (with_reducible refine Kd.C_alloc ?_ _) | (with_reducible refine Kd.C_drewN ?_ _) | (with_reducible refine Kd.C_drew ?_))); (case side2 => exact HC0_8.out); rintro e w18760 ⟨v18761, rfl, ho18762, hb⟩; refine ⟨_, rfl, ?_⟩; have HO509 := mk_ (Kd.R_lower ho18762 (below_size (us_ HB.out))); replace BK505 := mk_ (blk_below (u_ BK505.out) hb); replace BK506 := mk_ (blk_below (u_ BK506.out) hb); replace HB := mk_ (below_step (us_ HB.out) hb); obtain ⟨Ao4440509, co4440509, eo4440509⟩ := Kd.R_slice HO509.out; subst eo4440509; have q18763 : ((ji6) : Int) ≤ ((t507.length : Int) : Int) := of_decide_eq_true (by first | (with_reducible assumption) | assumption); obtain ⟨i18764, hi18764, _, hsz18763, _⟩ := info_parts info5; have hroom18763 : t507.length ≤ co4440509 := (Kd.R_reads' HO509.out).2.1; have hC18763 : Kd.C (Kd.int .u8) _ Ao4440509 t507.length t507 := (Kd.R_reads' HO509.out).2.2; have hcut18763 := cut_to (P := Try.prog) 22 5 .i64 Try.underlying22 hi18764 Ao4440509 t507.length co4440509 (ji6) (of_decide_eq_true (by first | (with_reducible assumption) | assumption)) q18763 hroom18763; have hr18763 := Kd.C_take (m := ((ji6) : Int).toNat) hC18763 (by omega); have hy18763 : y510.length = ((ji6) : Int).toNat := (by rw [Ny510.out, List.length_take]; omega); rw [← Ny510.out] at hr18763; rw [← hy18763] at hcut18763; have HR18765 := mk_ hr18763; have HC18765 := mk_ (show y510.length ≤ co4440509 from by omega); clear hr18763 hC18763 hroom18763 hi18764 hsz18763; have KY18763 := mk_ hy18763; clear hy18763; have KL18763 := mk_ (show ((ji6) : Int).toNat ≤ t507.length from by omega); replace q18763 := eq_true q18763) | ((with_reducible refine gate_callee (f := 61) rfl ?_); refine goesL_ (some 22) rfl rfl Try.func61 (by kernel_rfl) rfl #[.agg #[.int .i64 a2, .int .i64 a3, .slice Ao4440509 y510.length co4440509]] rfl (by (try simp only [lm_, lo_, ln_]); try rfl) ?_; (with_reducible refine (spec_NoteBytes.calls k a2 a3 _ _ y510 t514 _ ?side1 ?side2 A9.out).mono ?_); (case side1 => repeat (first | exact (by repeat (first | (with_reducible exact HR18765.out) | (with_reducible refine Kd.C_alloc ?_ _) | (with_reducible refine Kd.C_drewN ?_ _) | (with_reducible refine Kd.C_drew ?_) | exact HR18765.out)) | (with_reducible refine Kd.C_alloc ?_ _) | (with_reducible refine Kd.C_drewN ?_ _) | (with_reducible refine Kd.C_drew ?_))); (case side2 => exact HC18765.out); rintro e w18800 ⟨v18801, rfl, ho18762, hb⟩; refine ⟨_, rfl, ?_⟩; have n0_ := mk_ (Kd.R_elder' (Kd.ur_ HO509.out) (Kd.R_base ho18762) hb); have HO516 := mk_ (Kd.R_lower (Kd.R_new' ho18762 (Kd.R_lt (Kd.ur_ HO509.out))) (below_size (us_ HB.out))); replace BK505 := mk_ (blk_below (u_ BK505.out) hb); replace BK506 := mk_ (blk_below (u_ BK506.out) hb); replace HR18765 := mk_ (Kd.C_below (by repeat (first | (with_reducible exact HR18765.out) | (with_reducible refine Kd.C_alloc ?_ _) | (with_reducible refine Kd.C_drewN ?_ _) | (with_reducible refine Kd.C_drew ?_) | exact HR18765.out)) hb); replace HB := mk_ (below_step (us_ HB.out) hb); replace HO509 := n0_; clear n0_; obtain ⟨_, _, _, _, _, _, _, _, _, _, _, _, _, _, _, _, _, _⟩ := cells9_ BK505.out) | ((with_reducible refine gate_callee (f := 60) rfl ?_); refine goesL_ (some 24) rfl rfl Try.func60 (by kernel_rfl) rfl #[.agg #[.int .i64 a0_0, .int .i64 a0_1, .int .i64 a0_2, .int .i64 a0_3, .int .i64 a0_4, .int .i64 a0_5, .bool a0_6, .bool a0_7, .slice A0_8 l0_8.length c0_8]] rfl (by (try simp only [lm_, lo_, ln_]); try rfl) ?_; (with_reducible refine (spec_PacketOk.calls a0_0 a0_1 a0_2 a0_3 a0_4 a0_5 a0_6 a0_7 _ _ l0_8 false _ ?side1 ?side2 A10.out).mono ?_); (case side1 => repeat (first | exact (Kd.C_below HR0_8.out HB.out) | (with_reducible refine Kd.C_alloc ?_ _) | (with_reducible refine Kd.C_drewN ?_ _) | (with_reducible refine Kd.C_drew ?_))); (case side2 => exact HC0_8.out); rintro e w18840 ⟨rfl, hb⟩; refine ⟨_, rfl, ?_⟩; replace HO509 := mk_ (Kd.R_below (Kd.ur_ HO509.out) hb); replace HO516 := mk_ (Kd.R_below (Kd.ur_ HO516.out) hb); replace BK505 := mk_ (blk_below (u_ BK505.out) hb); replace BK506 := mk_ (blk_below (u_ BK506.out) hb); replace HR18765 := mk_ (Kd.C_below (by repeat (first | (with_reducible exact HR18765.out) | (with_reducible refine Kd.C_alloc ?_ _) | (with_reducible refine Kd.C_drewN ?_ _) | (with_reducible refine Kd.C_drew ?_) | exact HR18765.out)) hb); replace HB := mk_ (below_step (us_ HB.out) hb); obtain ⟨_, _, _, _, _, _, _, _, _, _, _, _, _, _, _, _, _, _⟩ := cells9_ BK506.out) | ((with_reducible refine gate_callee (f := 60) rfl ?_); refine goesL_ (some 24) rfl rfl Try.func60 (by kernel_rfl) rfl #[.agg #[.int .i64 a0_0, .int .i64 a0_1, .int .i64 a0_2, .int .i64 a0_3, .int .i64 a0_4, .int .i64 a0_5, .bool a0_6, .bool a0_7, .slice A0_8 l0_8.length c0_8]] rfl (by (try simp only [lm_, lo_, ln_]); try rfl) ?_; (with_reducible refine (spec_PacketOk.calls a0_0 a0_1 a0_2 a0_3 a0_4 a0_5 a0_6 a0_7 _ _ l0_8 true _ ?side1 ?side2 A10.out).mono ?_); (case side1 => repeat (first | exact (Kd.C_below HR0_8.out HB.out) | (with_reducible refine Kd.C_alloc ?_ _) | (with_reducible refine Kd.C_drewN ?_ _) | (with_reducible refine Kd.C_drew ?_))); (case side2 => exact HC0_8.out); rintro e w18840 ⟨rfl, hb⟩; refine ⟨_, rfl, ?_⟩; replace HO509 := mk_ (Kd.R_below (Kd.ur_ HO509.out) hb); replace HO516 := mk_ (Kd.R_below (Kd.ur_ HO516.out) hb); replace BK505 := mk_ (blk_below (u_ BK505.out) hb); replace BK506 := mk_ (blk_below (u_ BK506.out) hb); replace HR18765 := mk_ (Kd.C_below (by repeat (first | (with_reducible exact HR18765.out) | (with_reducible refine Kd.C_alloc ?_ _) | (with_reducible refine Kd.C_drewN ?_ _) | (with_reducible refine Kd.C_drew ?_) | exact HR18765.out)) hb); replace HB := mk_ (below_step (us_ HB.out) hb)) | (go_at_call 53; (with_reducible refine (spec_l1In.calls a1 0 65535 false _ A12.out).mono ?_); rintro e w' ⟨rfl, ⟨nd, rfl⟩⟩; (try simp only [World.drewN_drewN]); (try (rw [drewN_self w18840]; generalize hq_ : World.drewN w18840 _ = w18840; have n0_ : Aside0 (Kd.R (Kd.int .u8) 5 w18840 w.heap.size (fun k_ => some k_ ≠ (v18801 : Value).ownBlock) (.slice Ao4440509 t507.length co4440509) t507) := ⟨by rw [← hq_]; exact (by (with_reducible repeat (first | apply Kd.R_alloc | apply Kd.R_drewN | apply Kd.R_drew)); exact Kd.R_mono HO509.out (fun _ hk => hk.2))⟩; have n1_ : Aside0 (Kd.R (Kd.int .u8) 5 w18840 w.heap.size (fun k_ => some k_ ≠ (.slice Ao4440509 t507.length co4440509 : Value).ownBlock) v18801 t514) := ⟨by rw [← hq_]; exact (by (with_reducible repeat (first | apply Kd.R_alloc | apply Kd.R_drewN | apply Kd.R_drew)); exact Kd.R_mono HO516.out (fun _ hk => hk.2))⟩; have n2_ : Aside0 (w18840.heap[gb18680]? = some (.cells #[.int .i64 a0_0, .int .i64 a0_1, .int .i64 a0_2, .int .i64 a0_3, .int .i64 a0_4, .int .i64 a0_5, .bool a0_6, .bool a0_7, .slice A0_8 l0_8.length c0_8] 37 (0, 0))) := ⟨by rw [← hq_]; exact (u_ BK505.out)⟩; have n3_ : Aside0 (w18840.heap[gb18720]? = some (.cells #[.int .i64 0, .int .i64 0, .int .i64 0, .int .i64 0, .int .i64 0, .int .i64 0, .bool false, .bool false, .slice none 0 0] 37 (0, 0))) := ⟨by rw [← hq_]; exact (u_ BK506.out)⟩; have n4_ : Aside0 (Below w.heap.size w w18840) := ⟨by rw [← hq_]; exact (us_ HB.out)⟩; have n5_ : Aside0 (Kd.C (Kd.int .u8) w18840 Ao4440509 y510.length y510) := ⟨by rw [← hq_]; exact (by repeat (first | (with_reducible exact HR18765.out) | (with_reducible refine Kd.C_alloc ?_ _) | (with_reducible refine Kd.C_drewN ?_ _) | (with_reducible refine Kd.C_drew ?_) | exact HR18765.out))⟩; clear HO509 HO516 BK505 BK506 HB HR18765 hq_; have HO509 := n0_; have HO516 := n1_; have BK505 := n2_; have BK506 := n3_; have HB := n4_; have HR18765 := n5_; clear n0_ n1_ n2_ n3_ n4_ n5_)); obtain ⟨_, _, _, _, _, _, _, _, _, _, _, _, _, _, _, _, _, _⟩ := cells9_ BK506.out) | (go_at_call 53; have hA_ := A12.out; (with_reducible refine (spec_l1In.calls a1 0 65535 true _ A12.out).mono ?_); rintro e w' ⟨rfl, ⟨nd, rfl⟩⟩; (try simp only [World.drewN_drewN]); (try (rw [drewN_self w18840]; generalize hq_ : World.drewN w18840 _ = w18840; have n0_ : Aside0 (Kd.R (Kd.int .u8) 5 w18840 w.heap.size (fun k_ => some k_ ≠ (v18801 : Value).ownBlock) (.slice Ao4440509 t507.length co4440509) t507) := ⟨by rw [← hq_]; exact (by (with_reducible repeat (first | apply Kd.R_alloc | apply Kd.R_drewN | apply Kd.R_drew)); exact Kd.R_mono HO509.out (fun _ hk => hk.2))⟩; have n1_ : Aside0 (Kd.R (Kd.int .u8) 5 w18840 w.heap.size (fun k_ => some k_ ≠ (.slice Ao4440509 t507.length co4440509 : Value).ownBlock) v18801 t514) := ⟨by rw [← hq_]; exact (by (with_reducible repeat (first | apply Kd.R_alloc | apply Kd.R_drewN | apply Kd.R_drew)); exact Kd.R_mono HO516.out (fun _ hk => hk.2))⟩; have n2_ : Aside0 (w18840.heap[gb18680]? = some (.cells #[.int .i64 a0_0, .int .i64 a0_1, .int .i64 a0_2, .int .i64 a0_3, .int .i64 a0_4, .int .i64 a0_5, .bool a0_6, .bool a0_7, .slice A0_8 l0_8.length c0_8] 37 (0, 0))) := ⟨by rw [← hq_]; exact (u_ BK505.out)⟩; have n3_ : Aside0 (w18840.heap[gb18720]? = some (.cells #[.int .i64 0, .int .i64 0, .int .i64 0, .int .i64 0, .int .i64 0, .int .i64 0, .bool false, .bool false, .slice none 0 0] 37 (0, 0))) := ⟨by rw [← hq_]; exact (u_ BK506.out)⟩; have n4_ : Aside0 (Below w.heap.size w w18840) := ⟨by rw [← hq_]; exact (us_ HB.out)⟩; have n5_ : Aside0 (Kd.C (Kd.int .u8) w18840 Ao4440509 y510.length y510) := ⟨by rw [← hq_]; exact (by repeat (first | (with_reducible exact HR18765.out) | (with_reducible refine Kd.C_alloc ?_ _) | (with_reducible refine Kd.C_drewN ?_ _) | (with_reducible refine Kd.C_drew ?_) | exact HR18765.out))⟩; clear HO509 HO516 BK505 BK506 HB HR18765 hq_; have HO509 := n0_; have HO516 := n1_; have BK505 := n2_; have BK506 := n3_; have HB := n4_; have HR18765 := n5_; clear n0_ n1_ n2_ n3_ n4_ n5_)); clear hA_ A12) | (go_at_call 53; have hA_ := A14.out; (with_reducible refine (spec_l1In.calls a2 3 6 false _ A14.out).mono ?_); rintro e w' ⟨rfl, ⟨nd, rfl⟩⟩; (try simp only [World.drewN_drewN]); (try (rw [drewN_self w18840]; generalize hq_ : World.drewN w18840 _ = w18840; have n0_ : Aside0 (Kd.R (Kd.int .u8) 5 w18840 w.heap.size (fun k_ => some k_ ≠ (v18801 : Value).ownBlock) (.slice Ao4440509 t507.length co4440509) t507) := ⟨by rw [← hq_]; exact (by (with_reducible repeat (first | apply Kd.R_alloc | apply Kd.R_drewN | apply Kd.R_drew)); exact Kd.R_mono HO509.out (fun _ hk => hk.2))⟩; have n1_ : Aside0 (Kd.R (Kd.int .u8) 5 w18840 w.heap.size (fun k_ => some k_ ≠ (.slice Ao4440509 t507.length co4440509 : Value).ownBlock) v18801 t514) := ⟨by rw [← hq_]; exact (by (with_reducible repeat (first | apply Kd.R_alloc | apply Kd.R_drewN | apply Kd.R_drew)); exact Kd.R_mono HO516.out (fun _ hk => hk.2))⟩; have n2_ : Aside0 (w18840.heap[gb18680]? = some (.cells #[.int .i64 a0_0, .int .i64 a0_1, .int .i64 a0_2, .int .i64 a0_3, .int .i64 a0_4, .int .i64 a0_5, .bool a0_6, .bool a0_7, .slice A0_8 l0_8.length c0_8] 37 (0, 0))) := ⟨by rw [← hq_]; exact (u_ BK505.out)⟩; have n3_ : Aside0 (w18840.heap[gb18720]? = some (.cells #[.int .i64 0, .int .i64 0, .int .i64 0, .int .i64 0, .int .i64 0, .int .i64 0, .bool false, .bool false, .slice none 0 0] 37 (0, 0))) := ⟨by rw [← hq_]; exact (u_ BK506.out)⟩; have n4_ : Aside0 (Below w.heap.size w w18840) := ⟨by rw [← hq_]; exact (us_ HB.out)⟩; have n5_ : Aside0 (Kd.C (Kd.int .u8) w18840 Ao4440509 y510.length y510) := ⟨by rw [← hq_]; exact (by repeat (first | (with_reducible exact HR18765.out) | (with_reducible refine Kd.C_alloc ?_ _) | (with_reducible refine Kd.C_drewN ?_ _) | (with_reducible refine Kd.C_drew ?_) | exact HR18765.out))⟩; clear HO509 HO516 BK505 BK506 HB HR18765 hq_; have HO509 := n0_; have HO516 := n1_; have BK505 := n2_; have BK506 := n3_; have HB := n4_; have HR18765 := n5_; clear n0_ n1_ n2_ n3_ n4_ n5_)); obtain ⟨_, _, _, _, _, _, _, _, _, _, _, _, _, _, _, _, _, _⟩ := cells9_ BK506.out; clear hA_ A14) | (go_at_call 53; have hA_ := A14.out; (with_reducible refine (spec_l1In.calls a2 3 6 true _ A14.out).mono ?_); rintro e w' ⟨rfl, ⟨nd, rfl⟩⟩; (try simp only [World.drewN_drewN]); (try (rw [drewN_self w18840]; generalize hq_ : World.drewN w18840 _ = w18840; have n0_ : Aside0 (Kd.R (Kd.int .u8) 5 w18840 w.heap.size (fun k_ => some k_ ≠ (v18801 : Value).ownBlock) (.slice Ao4440509 t507.length co4440509) t507) := ⟨by rw [← hq_]; exact (by (with_reducible repeat (first | apply Kd.R_alloc | apply Kd.R_drewN | apply Kd.R_drew)); exact Kd.R_mono HO509.out (fun _ hk => hk.2))⟩; have n1_ : Aside0 (Kd.R (Kd.int .u8) 5 w18840 w.heap.size (fun k_ => some k_ ≠ (.slice Ao4440509 t507.length co4440509 : Value).ownBlock) v18801 t514) := ⟨by rw [← hq_]; exact (by (with_reducible repeat (first | apply Kd.R_alloc | apply Kd.R_drewN | apply Kd.R_drew)); exact Kd.R_mono HO516.out (fun _ hk => hk.2))⟩; have n2_ : Aside0 (w18840.heap[gb18680]? = some (.cells #[.int .i64 a0_0, .int .i64 a0_1, .int .i64 a0_2, .int .i64 a0_3, .int .i64 a0_4, .int .i64 a0_5, .bool a0_6, .bool a0_7, .slice A0_8 l0_8.length c0_8] 37 (0, 0))) := ⟨by rw [← hq_]; exact (u_ BK505.out)⟩; have n3_ : Aside0 (w18840.heap[gb18720]? = some (.cells #[.int .i64 0, .int .i64 0, .int .i64 0, .int .i64 0, .int .i64 0, .int .i64 0, .bool false, .bool false, .slice none 0 0] 37 (0, 0))) := ⟨by rw [← hq_]; exact (u_ BK506.out)⟩; have n4_ : Aside0 (Below w.heap.size w w18840) := ⟨by rw [← hq_]; exact (us_ HB.out)⟩; have n5_ : Aside0 (Kd.C (Kd.int .u8) w18840 Ao4440509 y510.length y510) := ⟨by rw [← hq_]; exact (by repeat (first | (with_reducible exact HR18765.out) | (with_reducible refine Kd.C_alloc ?_ _) | (with_reducible refine Kd.C_drewN ?_ _) | (with_reducible refine Kd.C_drew ?_) | exact HR18765.out))⟩; clear HO509 HO516 BK505 BK506 HB HR18765 hq_; have HO509 := n0_; have HO516 := n1_; have BK505 := n2_; have BK506 := n3_; have HB := n4_; have HR18765 := n5_; clear n0_ n1_ n2_ n3_ n4_ n5_)); obtain ⟨Ao4500516, co4500516, eo4500516⟩ := Kd.R_slice HO516.out; subst eo4500516; obtain ⟨_, _, _, _, _, _, _, _, _, _, _, _, _, _, _, _, _, _⟩ := cells9_ BK506.out; obtain ⟨_, _, _, _, _, _, _, _, _, _, _, _, _, _, _, _, _, _⟩ := cells9_ BK505.out; clear hA_ A14) | (go_at_call 69; (with_reducible refine (spec_NoteFault.calls k a0_0 a0_1 a0_2 a0_3 a0_4 a0_5 a0_6 a0_7 _ _ l0_8 true _ ?side1 ?side2 A29.out).mono ?_); (case side1 => repeat (first | exact (Kd.C_below HR0_8.out HB.out) | (with_reducible refine Kd.C_alloc ?_ _) | (with_reducible refine Kd.C_drewN ?_ _) | (with_reducible refine Kd.C_drew ?_))); (case side2 => exact HC0_8.out); rintro e w19040 ⟨rfl, hb⟩; replace HO509 := mk_ (Kd.R_below (Kd.ur_ HO509.out) hb); replace HO516 := mk_ (Kd.R_below (Kd.ur_ HO516.out) hb); replace BK505 := mk_ (blk_below (u_ BK505.out) hb); replace BK506 := mk_ (blk_below (u_ BK506.out) hb); replace HR18765 := mk_ (Kd.C_below (by repeat (first | (with_reducible exact HR18765.out) | (with_reducible refine Kd.C_alloc ?_ _) | (with_reducible refine Kd.C_drewN ?_ _) | (with_reducible refine Kd.C_drew ?_) | exact HR18765.out)) hb); replace HB := mk_ (below_step (us_ HB.out) hb); obtain ⟨_, _, _, _, _, _, _, _, _, _, _, _, _, _, _, _, _, _⟩ := cells9_ BK506.out) | (go_at_call 69; (with_reducible refine (spec_NoteFault.calls k a0_0 a0_1 a0_2 a0_3 a0_4 a0_5 a0_6 a0_7 _ _ l0_8 false _ ?side1 ?side2 A29.out).mono ?_); (case side1 => repeat (first | exact (Kd.C_below HR0_8.out HB.out) | (with_reducible refine Kd.C_alloc ?_ _) | (with_reducible refine Kd.C_drewN ?_ _) | (with_reducible refine Kd.C_drew ?_))); (case side2 => exact HC0_8.out); rintro e w19040 ⟨rfl, hb⟩; replace HO509 := mk_ (Kd.R_below (Kd.ur_ HO509.out) hb); replace HO516 := mk_ (Kd.R_below (Kd.ur_ HO516.out) hb); replace BK505 := mk_ (blk_below (u_ BK505.out) hb); replace BK506 := mk_ (blk_below (u_ BK506.out) hb); replace HR18765 := mk_ (Kd.C_below (by repeat (first | (with_reducible exact HR18765.out) | (with_reducible refine Kd.C_alloc ?_ _) | (with_reducible refine Kd.C_drewN ?_ _) | (with_reducible refine Kd.C_drew ?_) | exact HR18765.out)) hb); replace HB := mk_ (below_step (us_ HB.out) hb); obtain ⟨_, _, _, _, _, _, _, _, _, _, _, _, _, _, _, _, _, _⟩ := cells9_ BK505.out; obtain ⟨_, _, _, _, _, _, _, _, _, _, _, _, _, _, _, _, _, _⟩ := cells9_ BK506.out))
 iterate 6
  focus
   refine bodyPost_ret (results_ct rfl _ _ gb18720 37 #[.int .i64 0, .int .i64 0, .int .i64 0, .int .i64 0, .int .i64 0, .int .i64 0, .bool false, .bool false, .slice none 0 0] (0, 0) _ rfl (by (with_reducible repeat (first | refine bn_ ?_ _ | refine bw_ ?_ | refine ba_ ?_ _)); with_reducible apply blk_put9; (with_reducible repeat (first | refine bn_ ?_ _ | refine bw_ ?_ | refine ba_ ?_ _)); exact BK506.out) Try.underlying37 rfl (by kernel_rfl)) rfl ?_
   exact ⟨_, by first | rfl | (simp [errW_none, errW_some] <;> rfl) | (simp only [← hji6]; first | rfl | (simp [errW_none, errW_some] <;> rfl)) | (simp [*, errW_none, errW_some] <;> rfl), by first | exact Kd.R_nil _ _ _ _ _ | exact Kd.N_nil _ _ _ _ _ | exact Kd.V_nil _ _ _ _ _ | exact Kd.Q_nil _ _ _ _ _ | exact Kd.S_nil _ _ _ _ _, us_ HB.out⟩
 ·refine bodyPost_ret (results_ct rfl _ _ gb18720 37 #[.int .i64 a1, .int .i64 a0_0, .int .i64 1, .int .i64 64, .int .i64 a0_4, .int .i64 0, .bool false, .bool false, .slice Ao4500516 t514.length co4500516] (0, 0) _ rfl (by (with_reducible repeat (first | refine bn_ ?_ _ | refine bw_ ?_ | refine ba_ ?_ _)); with_reducible apply blk_put9; (with_reducible repeat (first | refine bn_ ?_ _ | refine bw_ ?_ | refine ba_ ?_ _)); exact BK506.out) Try.underlying37 rfl (by kernel_rfl)) rfl ?_
  exact ⟨_, by first | rfl | (simp [errW_none, errW_some] <;> rfl) | (simp only [← hji6]; first | rfl | (simp [errW_none, errW_some] <;> rfl)) | (simp [*, errW_none, errW_some] <;> rfl), by (with_reducible repeat (first | apply Kd.R_alloc | apply Kd.R_drewN | apply Kd.R_drew)); exact Kd.R_mono (Kd.R_far9 (g := gb18720) (Kd.R_types HO516.out BK506.out (by decide)) (fun _ hk => hk.2) _ _ _ _ _ _ _ _ _) (fun _ hk => trivial), us_ HB.out⟩

end Go.Proofs.Ytkkibccnpkbbjab.MFnNoteAbout
