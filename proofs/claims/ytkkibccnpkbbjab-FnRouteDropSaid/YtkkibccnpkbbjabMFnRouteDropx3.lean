/- Functions that the law FnRouteDrop reaches, each with the proof that the machine's call comes to just its answer; no conditions but those that each theorem states. Printed by a program of this session over the kit's print. -/
import Derived.Test.YtkkibccnpkbbjabMFnRouteDropx0
import Derived.Test.YtkkibccnpkbbjabMFnRouteDropx2
namespace Go.Proofs.Ytkkibccnpkbbjab.MFnRouteDrop
open Go.RowKit Go.Proofs.YtkkibccnpkbbjabV.PrintWords Go.Proofs.YtkkibccnpkbbjabV.PrintLast Go.Proofs.YtkkibccnpkbbjabV.PrintMore
attribute [local go_sem] max2_int min2_int max_two min_two max_three min_three max_four min_four   -- for this text's walks alone
set_option linter.unusedVariables false
set_option linter.unusedSimpArgs false

/-! ### spec_l20Route: function 79 -/
def spec_l20Route.f (k : Nat) (s0_0 : List Int) (s0_1 : Int) (a1 : Int) : Option (Int × Int × Int × Int × Int) := (spec_l20Rd_pick.f k s0_0 s0_1 17).bind fun bt125 => ((some (([0, 4, 8, 8, 12, 16, bt125.1] : List Int) : List Int)).bind fun y127 => ((spec_l20Rd_pick.f k s0_0 bt125.2 7).bind fun bt130 => (if 0 ≤ bt130.1 then (if bt130.1 < (y127.length : Int) then ((spec_l20Rd_pick.f k s0_0 bt130.2 512).bind fun bt133 => ((some (([0, 4096, 4352, 4353, wrap64 (4096 + bt133.1), 65535] : List Int) : List Int)).bind fun y135 => ((spec_l20Rd_pick.f k s0_0 bt133.2 6).bind fun bt138 => (if 0 ≤ bt138.1 then (if bt138.1 < (y135.length : Int) then (if 0 ≤ (wrap64 (16 - (rd y127 bt130.1))) then (if (shl .i64 1 (wrap64 (16 - (rd y127 bt130.1)))) = 0 then (none) else ((spec_l20Rd_pick.f k s0_0 bt138.2 3).bind fun bt141 => ((spec_l20Rd_pick.f k s0_0 bt141.2 3).bind fun bt143 => ((spec_l20Rd_odd.f k s0_0 bt143.2 a1).bind fun bt146 => (if bt146.1 = true then ((spec_l20Rd_pick.f k s0_0 bt146.2 3).bind fun bt148 => (if bt148.1 = 0 then ((spec_l20Rd_pick.f k s0_0 bt148.2 2).bind fun bt150 => (some (wrap64 ((rd y135 bt138.1) - (Int.tmod (rd y135 bt138.1) (shl .i64 1 (wrap64 (16 - (rd y127 bt130.1)))))), wrap64 (17 - (wrap64 (bt150.1 * 18))), bt141.1, wrap64 (4 + (wrap64 (bt143.1 * 6))), bt150.2))) else (if bt148.1 = 1 then ((spec_l20Rd_pick.f k s0_0 bt148.2 2).bind fun bt152 => (some (wrap64 ((rd y135 bt138.1) - (Int.tmod (rd y135 bt138.1) (shl .i64 1 (wrap64 (16 - (rd y127 bt130.1)))))), rd y127 bt130.1, bt141.1, wrap64 (bt152.1 * 49), bt152.2))) else (some (wrap64 ((wrap64 ((rd y135 bt138.1) - (Int.tmod (rd y135 bt138.1) (shl .i64 1 (wrap64 (16 - (rd y127 bt130.1))))))) + 1), rd y127 bt130.1, bt141.1, wrap64 (4 + (wrap64 (bt143.1 * 6))), bt148.2))))) else (some (wrap64 ((rd y135 bt138.1) - (Int.tmod (rd y135 bt138.1) (shl .i64 1 (wrap64 (16 - (rd y127 bt130.1)))))), rd y127 bt130.1, bt141.1, wrap64 (4 + (wrap64 (bt143.1 * 6))), bt146.2))))))) else (none)) else (none)) else (none))))) else (none)) else (none))))
theorem spec_l20Route.mono : ∀ a0 a1 a2 k, LeO (spec_l20Route.f k a0 a1 a2) (spec_l20Route.f (k + 1) a0 a1 a2) := by
 intro a0 a1 a2 k
 unfold spec_l20Route.f
 repeat' first
   | (with_reducible exact spec_l20Rd_odd.mono _ _ _ _)
   | (with_reducible exact spec_l20Rd_pick.mono _ _ _ _)
   | (with_reducible exact LeO.refl _)
   | (with_reducible exact LeO.none _)
   | (with_reducible refine LeO.ite ?_ ?_)
   | (with_reducible refine LeO.bind ?_ (fun _ => ?_))
   | exact spec_l20Rd_odd.mono _ _ _ _
   | exact spec_l20Rd_pick.mono _ _ _ _
   | exact LeO.none _
   | refine LeO.ite ?_ ?_
   | refine LeO.bind ?_ (fun _ => ?_)
def spec_l20Route.T3 : Bool × List (List Nat × List Nat) := (true, [([], []), ([], []), ([], []), ([2], [2]), ([3], [3]), ([1, 4], [1, 4]), ([0, 5], [0, 5]), ([], []), ([], []), ([8], [8]), ([], []), ([10, 9], [10]), ([11], [11]), ([12], [12]), ([6, 7, 9, 13], [6, 7, 9, 13]), ([], []), ([15, 14, 11, 0, 1, 2, 3, 4, 5, 6, 7, 8, 9, 10, 11, 12, 13, 14, 15], [14, 15])])
def spec_l20Route.B3 : List Nat := [0, 0, 0, 4, 12, 30, 63, 0, 0, 256, 0, 1792, 3840, 7936, 16383, 0, 65535]
theorem spec_l20Route.tab3 : rtab .any (opsOf Try.f79 3) = spec_l20Route.T3 := by kernel_rfl
theorem spec_l20Route.bits3 : waitsOk spec_l20Route.T3.2 spec_l20Route.B3 = true := by kernel_rfl
set_option maxHeartbeats 8000000 in
set_option maxRecDepth 100000 in
theorem spec_l20Route.calls (k : Nat) (g : Nat) (s0_0 : List Int) (s0_1 : Int) (a1 : Int) (r1 : Int) (r2 : Int) (r3 : Int) (r4 : Int) (r5 : Int) (w0 w : World) (hI : IsS107 w0 w g s0_0 s0_1) (hB : Below w0.heap.size w0 w) (h : spec_l20Route.f k s0_0 s0_1 a1 = some (r1, r2, r3, r4, r5)) :
  Calls Try.prog 79 #[.pointer (some ⟨g, 0, none⟩), .int .i64 a1] w fun e w' => e = .returned (.agg #[.int .i64 r1, .int .i64 r2, .int .i64 r3, .int .i64 r4]) ∧ IsS107 w0 w' g s0_0 r5 ∧ Below w0.heap.size w0 w' ∧ KeepBut w w' g none := by
 have hu29 := Try.underlying29
 have HI0 := mk_ hI
 have HK := mk_ (KeepBut.refl w g none)
 have HL := mk_ hB.size
 clear hI
 have HW0 := mk_ hB.size
 have HB := mk_ hB
 clear hB
 have H := h
 unfold spec_l20Route.f at H
 clear h
 replace H := Option.bind_eq_some_iff.mp H
 obtain ⟨⟨t125, t126⟩, A30, H⟩ := H
 (try dsimp only at H)
 have A3 := mk_ A30
 clear A30
 obtain ⟨y127, hy127⟩ : ∃ y_ : List Int, y_ = (([0, 4, 8, 8, 12, 16, t125] : List Int)) := ⟨_, rfl⟩
 replace H : ((spec_l20Rd_pick.f k s0_0 t126 7).bind fun bt130 => (if 0 ≤ bt130.1 then (if bt130.1 < (y127.length : Int) then ((spec_l20Rd_pick.f k s0_0 bt130.2 512).bind fun bt133 => ((some (([0, 4096, 4352, 4353, wrap64 (4096 + bt133.1), 65535] : List Int) : List Int)).bind fun y135 => ((spec_l20Rd_pick.f k s0_0 bt133.2 6).bind fun bt138 => (if 0 ≤ bt138.1 then (if bt138.1 < (y135.length : Int) then (if 0 ≤ (wrap64 (16 - (rd y127 bt130.1))) then (if (shl .i64 1 (wrap64 (16 - (rd y127 bt130.1)))) = 0 then (none) else ((spec_l20Rd_pick.f k s0_0 bt138.2 3).bind fun bt141 => ((spec_l20Rd_pick.f k s0_0 bt141.2 3).bind fun bt143 => ((spec_l20Rd_odd.f k s0_0 bt143.2 a1).bind fun bt146 => (if bt146.1 = true then ((spec_l20Rd_pick.f k s0_0 bt146.2 3).bind fun bt148 => (if bt148.1 = 0 then ((spec_l20Rd_pick.f k s0_0 bt148.2 2).bind fun bt150 => (some (wrap64 ((rd y135 bt138.1) - (Int.tmod (rd y135 bt138.1) (shl .i64 1 (wrap64 (16 - (rd y127 bt130.1)))))), wrap64 (17 - (wrap64 (bt150.1 * 18))), bt141.1, wrap64 (4 + (wrap64 (bt143.1 * 6))), bt150.2))) else (if bt148.1 = 1 then ((spec_l20Rd_pick.f k s0_0 bt148.2 2).bind fun bt152 => (some (wrap64 ((rd y135 bt138.1) - (Int.tmod (rd y135 bt138.1) (shl .i64 1 (wrap64 (16 - (rd y127 bt130.1)))))), rd y127 bt130.1, bt141.1, wrap64 (bt152.1 * 49), bt152.2))) else (some (wrap64 ((wrap64 ((rd y135 bt138.1) - (Int.tmod (rd y135 bt138.1) (shl .i64 1 (wrap64 (16 - (rd y127 bt130.1))))))) + 1), rd y127 bt130.1, bt141.1, wrap64 (4 + (wrap64 (bt143.1 * 6))), bt148.2))))) else (some (wrap64 ((rd y135 bt138.1) - (Int.tmod (rd y135 bt138.1) (shl .i64 1 (wrap64 (16 - (rd y127 bt130.1)))))), rd y127 bt130.1, bt141.1, wrap64 (4 + (wrap64 (bt143.1 * 6))), bt146.2))))))) else (none)) else (none)) else (none))))) else (none)) else (none))) = some (r1, r2, r3, r4, r5) := by first | (rw [hy127]; with_reducible exact H) | (have H2_ := (Option.bind_some _ _).symm.trans H; rw [hy127]; with_reducible exact H2_) | (have H2_ := (Option.bind_some _ _).symm.trans H; with_reducible exact H2_) | with_reducible exact H | (rw [hy127]; exact H) | exact H
 have Ny127 := mk_ hy127
 clear hy127
 replace H := Option.bind_eq_some_iff.mp H
 obtain ⟨⟨t130, t131⟩, A40, H⟩ := H
 (try dsimp only at H)
 have A4 := mk_ A40
 clear A40
 by_cases c5 : 0 ≤ t130
 rotate_left
 ·rw [if_neg c5] at H
  exact absurd H (by simp)
 rw [if_pos c5] at H
 have c5b0 : decide (0 ≤ t130) = true := decide_eq_true c5
 clear c5
 by_cases c6 : t130 < (y127.length : Int)
 rotate_left
 ·rw [if_neg c6] at H
  exact absurd H (by simp)
 rw [if_pos c6] at H
 have c6b0 : decide (t130 < (y127.length : Int)) = true := decide_eq_true c6
 clear c6
 replace H := Option.bind_eq_some_iff.mp H
 obtain ⟨⟨t133, t134⟩, A70, H⟩ := H
 (try dsimp only at H)
 have A7 := mk_ A70
 clear A70
 obtain ⟨y135, hy135⟩ : ∃ y_ : List Int, y_ = (([0, 4096, 4352, 4353, wrap64 (4096 + t133), 65535] : List Int)) := ⟨_, rfl⟩
 replace H : ((spec_l20Rd_pick.f k s0_0 t134 6).bind fun bt138 => (if 0 ≤ bt138.1 then (if bt138.1 < (y135.length : Int) then (if 0 ≤ (wrap64 (16 - (rd y127 t130))) then (if (shl .i64 1 (wrap64 (16 - (rd y127 t130)))) = 0 then (none) else ((spec_l20Rd_pick.f k s0_0 bt138.2 3).bind fun bt141 => ((spec_l20Rd_pick.f k s0_0 bt141.2 3).bind fun bt143 => ((spec_l20Rd_odd.f k s0_0 bt143.2 a1).bind fun bt146 => (if bt146.1 = true then ((spec_l20Rd_pick.f k s0_0 bt146.2 3).bind fun bt148 => (if bt148.1 = 0 then ((spec_l20Rd_pick.f k s0_0 bt148.2 2).bind fun bt150 => (some (wrap64 ((rd y135 bt138.1) - (Int.tmod (rd y135 bt138.1) (shl .i64 1 (wrap64 (16 - (rd y127 t130)))))), wrap64 (17 - (wrap64 (bt150.1 * 18))), bt141.1, wrap64 (4 + (wrap64 (bt143.1 * 6))), bt150.2))) else (if bt148.1 = 1 then ((spec_l20Rd_pick.f k s0_0 bt148.2 2).bind fun bt152 => (some (wrap64 ((rd y135 bt138.1) - (Int.tmod (rd y135 bt138.1) (shl .i64 1 (wrap64 (16 - (rd y127 t130)))))), rd y127 t130, bt141.1, wrap64 (bt152.1 * 49), bt152.2))) else (some (wrap64 ((wrap64 ((rd y135 bt138.1) - (Int.tmod (rd y135 bt138.1) (shl .i64 1 (wrap64 (16 - (rd y127 t130))))))) + 1), rd y127 t130, bt141.1, wrap64 (4 + (wrap64 (bt143.1 * 6))), bt148.2))))) else (some (wrap64 ((rd y135 bt138.1) - (Int.tmod (rd y135 bt138.1) (shl .i64 1 (wrap64 (16 - (rd y127 t130)))))), rd y127 t130, bt141.1, wrap64 (4 + (wrap64 (bt143.1 * 6))), bt146.2))))))) else (none)) else (none)) else (none))) = some (r1, r2, r3, r4, r5) := by first | (rw [hy135]; with_reducible exact H) | (have H2_ := (Option.bind_some _ _).symm.trans H; rw [hy135]; with_reducible exact H2_) | (have H2_ := (Option.bind_some _ _).symm.trans H; with_reducible exact H2_) | with_reducible exact H | (rw [hy135]; exact H) | exact H
 have Ny135 := mk_ hy135
 clear hy135
 replace H := Option.bind_eq_some_iff.mp H
 obtain ⟨⟨t138, t139⟩, A80, H⟩ := H
 (try dsimp only at H)
 have A8 := mk_ A80
 clear A80
 by_cases c9 : 0 ≤ t138
 rotate_left
 ·rw [if_neg c9] at H
  exact absurd H (by simp)
 rw [if_pos c9] at H
 have c9b0 : decide (0 ≤ t138) = true := decide_eq_true c9
 clear c9
 by_cases c10 : t138 < (y135.length : Int)
 rotate_left
 ·rw [if_neg c10] at H
  exact absurd H (by simp)
 rw [if_pos c10] at H
 have c10b0 : decide (t138 < (y135.length : Int)) = true := decide_eq_true c10
 clear c10
 obtain ⟨ji11, hji11⟩ : ∃ j_ : Int, (wrap64 (16 - (rd y127 t130))) = j_ := ⟨_, rfl⟩
 replace H : (if 0 ≤ (ji11) then (if (shl .i64 1 (ji11)) = 0 then (none) else ((spec_l20Rd_pick.f k s0_0 t139 3).bind fun bt141 => ((spec_l20Rd_pick.f k s0_0 bt141.2 3).bind fun bt143 => ((spec_l20Rd_odd.f k s0_0 bt143.2 a1).bind fun bt146 => (if bt146.1 = true then ((spec_l20Rd_pick.f k s0_0 bt146.2 3).bind fun bt148 => (if bt148.1 = 0 then ((spec_l20Rd_pick.f k s0_0 bt148.2 2).bind fun bt150 => (some (wrap64 ((rd y135 t138) - (Int.tmod (rd y135 t138) (shl .i64 1 (ji11)))), wrap64 (17 - (wrap64 (bt150.1 * 18))), bt141.1, wrap64 (4 + (wrap64 (bt143.1 * 6))), bt150.2))) else (if bt148.1 = 1 then ((spec_l20Rd_pick.f k s0_0 bt148.2 2).bind fun bt152 => (some (wrap64 ((rd y135 t138) - (Int.tmod (rd y135 t138) (shl .i64 1 (ji11)))), rd y127 t130, bt141.1, wrap64 (bt152.1 * 49), bt152.2))) else (some (wrap64 ((wrap64 ((rd y135 t138) - (Int.tmod (rd y135 t138) (shl .i64 1 (ji11))))) + 1), rd y127 t130, bt141.1, wrap64 (4 + (wrap64 (bt143.1 * 6))), bt148.2))))) else (some (wrap64 ((rd y135 t138) - (Int.tmod (rd y135 t138) (shl .i64 1 (ji11)))), rd y127 t130, bt141.1, wrap64 (4 + (wrap64 (bt143.1 * 6))), bt146.2))))))) else (none)) = some (r1, r2, r3, r4, r5) := by first | (rw [hji11] at H; exact H) | (simp only [hji11] at H ⊢; exact H)
 (try rw [hji11] at A3)
 (try rw [hji11] at A4)
 (try rw [hji11] at A7)
 (try rw [hji11] at A8)
 have hji11w : (IntKind.i64.wrap (16 - (rd y127 t130))) = ji11 := (i64_w _).trans hji11
 by_cases c12 : 0 ≤ (ji11)
 rotate_left
 ·rw [if_neg c12] at H
  exact absurd H (by simp)
 rw [if_pos c12] at H
 have c12b0 := eq_true c12
 have c12b1 : decide (0 ≤ (ji11)) = true := decide_eq_true c12
 clear c12
 obtain ⟨ji13, hji13⟩ : ∃ j_ : Int, (shl .i64 1 (ji11)) = j_ := ⟨_, rfl⟩
 replace H : (if (ji13) = 0 then (none) else ((spec_l20Rd_pick.f k s0_0 t139 3).bind fun bt141 => ((spec_l20Rd_pick.f k s0_0 bt141.2 3).bind fun bt143 => ((spec_l20Rd_odd.f k s0_0 bt143.2 a1).bind fun bt146 => (if bt146.1 = true then ((spec_l20Rd_pick.f k s0_0 bt146.2 3).bind fun bt148 => (if bt148.1 = 0 then ((spec_l20Rd_pick.f k s0_0 bt148.2 2).bind fun bt150 => (some (wrap64 ((rd y135 t138) - (Int.tmod (rd y135 t138) (ji13))), wrap64 (17 - (wrap64 (bt150.1 * 18))), bt141.1, wrap64 (4 + (wrap64 (bt143.1 * 6))), bt150.2))) else (if bt148.1 = 1 then ((spec_l20Rd_pick.f k s0_0 bt148.2 2).bind fun bt152 => (some (wrap64 ((rd y135 t138) - (Int.tmod (rd y135 t138) (ji13))), rd y127 t130, bt141.1, wrap64 (bt152.1 * 49), bt152.2))) else (some (wrap64 ((wrap64 ((rd y135 t138) - (Int.tmod (rd y135 t138) (ji13)))) + 1), rd y127 t130, bt141.1, wrap64 (4 + (wrap64 (bt143.1 * 6))), bt148.2))))) else (some (wrap64 ((rd y135 t138) - (Int.tmod (rd y135 t138) (ji13))), rd y127 t130, bt141.1, wrap64 (4 + (wrap64 (bt143.1 * 6))), bt146.2))))))) = some (r1, r2, r3, r4, r5) := by first | (rw [hji13] at H; exact H) | (simp only [hji13] at H ⊢; exact H)
 (try rw [hji13] at A3)
 (try rw [hji13] at A4)
 (try rw [hji13] at A7)
 (try rw [hji13] at A8)
 have hji13_ : (IntKind.i64.wrap (1 * 2 ^ min (ji11).toNat 64)) = ji13 := hji13
 have hji13z : (ji11) ≤ 64 → (IntKind.i64.wrap (1 * 2 ^ (ji11).toNat)) = ji13 := shl_small hji13
 have hji13u : (IntKind.i64.wrap (2 ^ min (ji11).toNat 64)) = ji13 := by have h_ := hji13_; rw [Int.one_mul] at h_; exact h_
 have hji13v : (ji11) ≤ 64 → (IntKind.i64.wrap (2 ^ (ji11).toNat)) = ji13 := fun hle_ => by have h_ := hji13z hle_; rw [Int.one_mul] at h_; exact h_
 have hji13y : (wrap64 (1 * 2 ^ min (ji11).toNat 64)) = ji13 := (i64_w _).symm.trans hji13_
 have hji13x : (ji11) ≤ 64 → (wrap64 (1 * 2 ^ (ji11).toNat)) = ji13 := fun h_ => (i64_w _).symm.trans (hji13z h_)
 by_cases c14 : (ji13) = 0
 ·rw [if_pos c14] at H
  exact absurd H (by simp)
 rw [if_neg c14] at H
 have c14b0 : ((ji13) == 0) = false := beq_eq_false_iff_ne.mpr c14
 have c14b1 : ((ji13) != 0) = true := bne_iff_ne.mpr c14
 replace H := Option.bind_eq_some_iff.mp H
 obtain ⟨⟨t141, t142⟩, A150, H⟩ := H
 (try dsimp only at H)
 have A15 := mk_ A150
 clear A150
 replace H := Option.bind_eq_some_iff.mp H
 obtain ⟨⟨t143, t144⟩, A160, H⟩ := H
 (try dsimp only at H)
 have A16 := mk_ A160
 clear A160
 replace H := Option.bind_eq_some_iff.mp H
 obtain ⟨⟨t146, t147⟩, A170, H⟩ := H
 (try dsimp only at H)
 have A17 := mk_ A170
 clear A170
 by_cases c18 : t146 = true
 rotate_left
 focus
  replace c18 := Bool.eq_false_iff.mpr c18
  subst c18
  rw [if_neg (show ¬ (false = true) by decide)] at H
  simp only [Option.some.injEq, Prod.mk.injEq] at H
  obtain ⟨rfl, rfl, rfl, rfl, rfl⟩ := H
 rotate_left
 focus
  subst c18
  rw [if_pos rfl] at H
  replace H := Option.bind_eq_some_iff.mp H
  obtain ⟨⟨t148, t149⟩, A190, H⟩ := H
  (try dsimp only at H)
  have A19 := mk_ A190
  clear A190
  by_cases c20 : t148 = 0
  focus
   rw [if_pos c20] at H
   have c20b0 : (t148 == 0) = true := beq_iff_eq.mpr c20
   have c20b1 : (t148 != 0) = false := bne_eq_false_iff_eq.mpr c20
   clear c20
   replace H := Option.bind_eq_some_iff.mp H
   obtain ⟨⟨t150, t151⟩, A210, H⟩ := H
   (try dsimp only at H)
   have A21 := mk_ A210
   clear A210
   simp only [Option.some.injEq, Prod.mk.injEq] at H
   obtain ⟨rfl, rfl, rfl, rfl, rfl⟩ := H
  rotate_left
  focus
   rw [if_neg c20] at H
   have c20b0 : (t148 == 0) = false := beq_eq_false_iff_ne.mpr c20
   have c20b1 : (t148 != 0) = true := bne_iff_ne.mpr c20
   by_cases c50 : t148 = 1
   rotate_left
   focus
    rw [if_neg c50] at H
    have c50b0 : (t148 == 1) = false := beq_eq_false_iff_ne.mpr c50
    have c50b1 : (t148 != 1) = true := bne_iff_ne.mpr c50
    simp only [Option.some.injEq, Prod.mk.injEq] at H
    obtain ⟨rfl, rfl, rfl, rfl, rfl⟩ := H
   rotate_left
   focus
    rw [if_pos c50] at H
    have c50b0 : (t148 == 1) = true := beq_iff_eq.mpr c50
    have c50b1 : (t148 != 1) = false := bne_eq_false_iff_eq.mpr c50
    clear c50
    replace H := Option.bind_eq_some_iff.mp H
    obtain ⟨⟨t152, t153⟩, A510, H⟩ := H
    (try dsimp only at H)
    have A51 := mk_ A510
    clear A510
    simp only [Option.some.injEq, Prod.mk.injEq] at H
    obtain ⟨rfl, rfl, rfl, rfl, rfl⟩ := H
   rotate_left
  rotate_left 2
 rotate_left 3
 all_goals
  go_enter Try.func79, Try.ntmps79
  try go_wp2_with (first | ((with_reducible refine gate_dst (N := 4) rfl ?_); refine box_event ?hg (N := 4) ?hd (cs := #[.int .i64 0, .int .i64 0, .int .i64 0, .int .i64 0]) (t := 29) ?hr ?_; (case hd => rfl); (case hg => rfl); (case hr => first | (go_simp; done) | (go_simp; rfl)); intro gb1880 hg w1881 hbox hb; have n0_ := mk_ (IsS107.below (by repeat (first | (with_reducible first | exact HI0.out | apply IsS107.alloc | apply IsS107.drewN | apply IsS107.drew | apply IsS107.set_1) | exact HI0.out)) hb); have n1_ := mk_ (KeepBut.trans (by repeat (first | (with_reducible first | exact HK.out | apply KeepBut.set_ | apply keep_drewN | apply keep_drew | apply keep_alloc) | exact HK.out)) (KeepBut.of_below hb g none) (.inl rfl)); replace HB := mk_ (below_step (by repeat (first | (with_reducible first | exact HB.out | apply na_ | apply nn_ | apply nw_ | refine bs_ ?_ (IsS107.ge HI0.out)) | exact HB.out)) hb); have BK124 := mk_ (hbox); have GW124 := mk_ ((by rw [hg]; exact (keep_size (w := w) (g := g) (row := none) (by repeat (first | (with_reducible first | exact HK.out | apply KeepBut.set_ | apply keep_drewN | apply keep_drew | apply keep_alloc) | exact HK.out))) : w.heap.size ≤ gb1880)); have GE124 := ge_ ((Nat.le_trans HW0.out (by rw [hg]; exact (keep_size (w := w) (g := g) (row := none) (by repeat (first | (with_reducible first | exact HK.out | apply KeepBut.set_ | apply keep_drewN | apply keep_drew | apply keep_alloc) | exact HK.out))) : w.heap.size ≤ gb1880) : w0.heap.size ≤ gb1880)); have NB0_124 := nq_ ((by rw [hg]; exact Nat.ne_of_lt (IsS107.lt (show IsS107 w0 _ g s0_0 s0_1 from by repeat (first | (with_reducible first | exact HI0.out | apply IsS107.alloc | apply IsS107.drewN | apply IsS107.drew | apply IsS107.set_1) | exact HI0.out))) : g ≠ gb1880)); have NB124_0 := nq_ ((by rw [hg]; exact Nat.ne_of_gt (IsS107.lt (show IsS107 w0 _ g s0_0 s0_1 from by repeat (first | (with_reducible first | exact HI0.out | apply IsS107.alloc | apply IsS107.drewN | apply IsS107.drew | apply IsS107.set_1) | exact HI0.out))) : gb1880 ≠ g)); replace HI0 := n0_; replace HK := n1_; clear n0_ n1_; clear hb hbox hg) | ((with_reducible refine gate_callee (f := 46) rfl ?_); have hA_ := A3.out; refine goesL_ (some 9) rfl rfl Try.func46 (by kernel_rfl) rfl #[.pointer (some ⟨g, 0, none⟩), .int .i64 17] rfl (by (try simp only [lm_, lo_, ln_]); try rfl) ?_; (with_reducible refine (spec_l20Rd_pick.calls k g s0_0 s0_1 17 t125 t126 w0 _ ?side1 ?side2 A3.out).mono ?_); (case side1 => repeat (first | (with_reducible first | exact HI0.out | apply IsS107.alloc | apply IsS107.drewN | apply IsS107.drew | apply IsS107.set_1 | refine IsS107.far ?_ NB0_124.out _) | exact HI0.out)); (case side2 => repeat (first | (with_reducible first | exact HB.out | apply na_ | apply nn_ | apply nw_ | refine bs_ ?_ (IsS107.ge HI0.out) | refine bs_ ?_ GE124.out) | exact HB.out)); rintro e w1920 ⟨rfl, hi, hb, hk⟩; refine ⟨_, rfl, ?_⟩; replace BK124 := mk_ (KeepBut.blk hk (g' := gb1880) (o := .cells #[.int .i64 0, .int .i64 0, .int .i64 0, .int .i64 0] 29 (0, 0)) (u_ BK124.out) NB124_0.out (by simp)); replace HK := mk_ (KeepBut.trans (by repeat (first | (with_reducible first | exact HK.out | apply KeepBut.set_ | apply keep_drewN | apply keep_drew | apply keep_alloc | refine keep_far ?_ GW124.out _) | exact HK.out)) hk (.inl rfl)); replace HB := mk_ (hb); replace HI0 := mk_ (hi); clear hA_ A3) | ((with_reducible refine gate_dst (N := 10) rfl ?_); refine Kd.R_lit (Kd.int .i64) _ 3 ?hg (N := 10) ?hd (xs := ([0, 4, 8, 8, 12, 16, t125] : List Int)) (inner := [.int .i64 0, .int .i64 4, .int .i64 8, .int .i64 8, .int .i64 12, .int .i64 16, .int .i64 t125]) (ok := fun _ => True) (okp := fun _ => True) ?hr ?hp (fun _ hk => hk) trivial (Below.refl _ _) (Nat.le_refl _) (by simp) ?_; (case hd => rfl); (case hg => rfl); (case hr => first | (go_simp; done) | (go_simp; rfl)); (case hp => exact (Reps.one (show Kd.M (Kd.int .i64) _ _ _ 0 [.int .i64 0] from rfl) (Reps.one (show Kd.M (Kd.int .i64) _ _ _ 4 [.int .i64 4] from rfl) (Reps.one (show Kd.M (Kd.int .i64) _ _ _ 8 [.int .i64 8] from rfl) (Reps.one (show Kd.M (Kd.int .i64) _ _ _ 8 [.int .i64 8] from rfl) (Reps.one (show Kd.M (Kd.int .i64) _ _ _ 12 [.int .i64 12] from rfl) (Reps.one (show Kd.M (Kd.int .i64) _ _ _ 16 [.int .i64 16] from rfl) (Reps.one (show Kd.M (Kd.int .i64) _ _ _ t125 [.int .i64 t125] from rfl) (Reps.none _ _))))))))); intro v1960 w1961 ho1962 hb hg_ hnew_; clear hg_ hnew_; (first | rw [← Ny127.out] at ho1962 | (simp only [Int.reduceToNat] at ho1962; rw [← Ny127.out] at ho1962)); have HO129 := mk_ (Kd.R_lower ho1962 (keep_size (w := w) (g := g) (row := none) (by repeat (first | (with_reducible first | exact HK.out | apply KeepBut.set_ | apply keep_drewN | apply keep_drew | apply keep_alloc | refine keep_far ?_ GW124.out _) | exact HK.out)))); have n1_ := mk_ (IsS107.below (by repeat (first | (with_reducible first | exact HI0.out | apply IsS107.alloc | apply IsS107.drewN | apply IsS107.drew | apply IsS107.set_1 | refine IsS107.far ?_ NB0_124.out _) | exact HI0.out)) hb); replace BK124 := mk_ (blk_below (u_ BK124.out) hb); replace HK := mk_ (KeepBut.trans (by repeat (first | (with_reducible first | exact HK.out | apply KeepBut.set_ | apply keep_drewN | apply keep_drew | apply keep_alloc | refine keep_far ?_ GW124.out _) | exact HK.out)) (KeepBut.of_below hb g none) (.inl rfl)); replace HB := mk_ (below_step (by repeat (first | (with_reducible first | exact HB.out | apply na_ | apply nn_ | apply nw_ | refine bs_ ?_ (IsS107.ge HI0.out) | refine bs_ ?_ GE124.out) | exact HB.out)) hb); replace HI0 := n1_; clear n1_; clear hb ho1962) | ((with_reducible refine gate_callee (f := 46) rfl ?_); have hA_ := A4.out; refine goesL_ (some 12) rfl rfl Try.func46 (by kernel_rfl) rfl #[.pointer (some ⟨g, 0, none⟩), .int .i64 7] rfl (by (try simp only [lm_, lo_, ln_]); try rfl) ?_; (with_reducible refine (spec_l20Rd_pick.calls k g s0_0 t126 7 t130 t131 w0 _ ?side1 ?side2 A4.out).mono ?_); (case side1 => repeat (first | (with_reducible first | exact HI0.out | apply IsS107.alloc | apply IsS107.drewN | apply IsS107.drew | apply IsS107.set_1 | refine IsS107.far ?_ NB0_124.out _) | exact HI0.out)); (case side2 => repeat (first | (with_reducible first | exact HB.out | apply na_ | apply nn_ | apply nw_ | refine bs_ ?_ (IsS107.ge HI0.out) | refine bs_ ?_ GE124.out) | exact HB.out)); rintro e w2000 ⟨rfl, hi, hb, hk⟩; refine ⟨_, rfl, ?_⟩; replace BK124 := mk_ (KeepBut.blk hk (g' := gb1880) (o := .cells #[.int .i64 0, .int .i64 0, .int .i64 0, .int .i64 0] 29 (0, 0)) (u_ BK124.out) NB124_0.out (by simp)); replace HO129 := mk_ (Kd.R_mono (Kd.R_keep (IsS107.apart (show IsS107 w0 _ g s0_0 t126 from by repeat (first | (with_reducible first | exact HI0.out | apply IsS107.alloc | apply IsS107.drewN | apply IsS107.drew | apply IsS107.set_1 | refine IsS107.far ?_ NB0_124.out _) | exact HI0.out)) (Kd.ur_ HO129.out) (by decide)) hk (fun _ h => h.2)) (fun _ h => h.1)); replace HK := mk_ (KeepBut.trans (by repeat (first | (with_reducible first | exact HK.out | apply KeepBut.set_ | apply keep_drewN | apply keep_drew | apply keep_alloc | refine keep_far ?_ GW124.out _) | exact HK.out)) hk (.inl rfl)); replace HB := mk_ (hb); replace HI0 := mk_ (hi); obtain ⟨Ao250129, co250129, eo250129⟩ := Kd.R_slice HO129.out; subst eo250129; have p2001 : 0 ≤ (t130 : Int) := of_decide_eq_true (by first | (with_reducible assumption) | assumption); have q2001 : t130 < (y127.length : Int) := of_decide_eq_true (by first | (with_reducible assumption) | assumption); obtain ⟨ad2001, e2001, hx132_0⟩ := Kd.at_int (Kd.R_reads' HO129.out).2.2 t130 p2001 q2001; cases e2001; replace p2001 := eq_true p2001; replace q2001 := eq_true q2001; clear hA_ A4) | ((with_reducible refine gate_callee (f := 46) rfl ?_); have hA_ := A7.out; refine goesL_ (some 16) rfl rfl Try.func46 (by kernel_rfl) rfl #[.pointer (some ⟨g, 0, none⟩), .int .i64 512] rfl (by (try simp only [lm_, lo_, ln_]); try rfl) ?_; (with_reducible refine (spec_l20Rd_pick.calls k g s0_0 t131 512 t133 t134 w0 _ ?side1 ?side2 A7.out).mono ?_); (case side1 => repeat (first | (with_reducible first | exact HI0.out | apply IsS107.alloc | apply IsS107.drewN | apply IsS107.drew | apply IsS107.set_1 | refine IsS107.far ?_ NB0_124.out _) | exact HI0.out)); (case side2 => repeat (first | (with_reducible first | exact HB.out | apply na_ | apply nn_ | apply nw_ | refine bs_ ?_ (IsS107.ge HI0.out) | refine bs_ ?_ GE124.out) | exact HB.out)); rintro e w2040 ⟨rfl, hi, hb, hk⟩; refine ⟨_, rfl, ?_⟩; replace BK124 := mk_ (KeepBut.blk hk (g' := gb1880) (o := .cells #[.int .i64 0, .int .i64 0, .int .i64 0, .int .i64 0] 29 (0, 0)) (u_ BK124.out) NB124_0.out (by simp)); replace HO129 := mk_ (Kd.R_mono (Kd.R_keep (IsS107.apart (show IsS107 w0 _ g s0_0 t131 from by repeat (first | (with_reducible first | exact HI0.out | apply IsS107.alloc | apply IsS107.drewN | apply IsS107.drew | apply IsS107.set_1 | refine IsS107.far ?_ NB0_124.out _) | exact HI0.out)) (Kd.ur_ HO129.out) (by decide)) hk (fun _ h => h.2)) (fun _ h => h.1)); replace HK := mk_ (KeepBut.trans (by repeat (first | (with_reducible first | exact HK.out | apply KeepBut.set_ | apply keep_drewN | apply keep_drew | apply keep_alloc | refine keep_far ?_ GW124.out _) | exact HK.out)) hk (.inl rfl)); replace HB := mk_ (hb); replace HI0 := mk_ (hi); clear hA_ A7) | ((with_reducible refine gate_dst (N := 18) rfl ?_); refine Kd.R_lit (Kd.int .i64) _ 3 ?hg (N := 18) ?hd (xs := ([0, 4096, 4352, 4353, wrap64 (4096 + t133), 65535] : List Int)) (inner := [.int .i64 0, .int .i64 4096, .int .i64 4352, .int .i64 4353, .int .i64 (wrap64 (4096 + t133)), .int .i64 65535]) (ok := fun _ => True) (okp := fun _ => True) ?hr ?hp (fun _ hk => hk) trivial (Below.refl _ _) (Nat.le_refl _) (by simp) ?_; (case hd => rfl); (case hg => rfl); (case hr => first | (go_simp; done) | (go_simp; rfl)); (case hp => exact (Reps.one (show Kd.M (Kd.int .i64) _ _ _ 0 [.int .i64 0] from rfl) (Reps.one (show Kd.M (Kd.int .i64) _ _ _ 4096 [.int .i64 4096] from rfl) (Reps.one (show Kd.M (Kd.int .i64) _ _ _ 4352 [.int .i64 4352] from rfl) (Reps.one (show Kd.M (Kd.int .i64) _ _ _ 4353 [.int .i64 4353] from rfl) (Reps.one (show Kd.M (Kd.int .i64) _ _ _ (wrap64 (4096 + t133)) [.int .i64 (wrap64 (4096 + t133))] from rfl) (Reps.one (show Kd.M (Kd.int .i64) _ _ _ 65535 [.int .i64 65535] from rfl) (Reps.none _ _)))))))); intro v2080 w2081 ho2082 hb hg_ hnew_; clear hg_ hnew_; (first | rw [← Ny135.out] at ho2082 | (simp only [Int.reduceToNat] at ho2082; rw [← Ny135.out] at ho2082)); have n0_ := mk_ (Kd.R_elder' (Kd.ur_ HO129.out) (Kd.R_base ho2082) hb); have HO137 := mk_ (Kd.R_lower (Kd.R_new' ho2082 (Kd.R_lt (Kd.ur_ HO129.out))) (keep_size (w := w) (g := g) (row := none) (by repeat (first | (with_reducible first | exact HK.out | apply KeepBut.set_ | apply keep_drewN | apply keep_drew | apply keep_alloc | refine keep_far ?_ GW124.out _) | exact HK.out)))); have n2_ := mk_ (IsS107.below (by repeat (first | (with_reducible first | exact HI0.out | apply IsS107.alloc | apply IsS107.drewN | apply IsS107.drew | apply IsS107.set_1 | refine IsS107.far ?_ NB0_124.out _) | exact HI0.out)) hb); replace BK124 := mk_ (blk_below (u_ BK124.out) hb); replace HK := mk_ (KeepBut.trans (by repeat (first | (with_reducible first | exact HK.out | apply KeepBut.set_ | apply keep_drewN | apply keep_drew | apply keep_alloc | refine keep_far ?_ GW124.out _) | exact HK.out)) (KeepBut.of_below hb g none) (.inl rfl)); replace HB := mk_ (below_step (by repeat (first | (with_reducible first | exact HB.out | apply na_ | apply nn_ | apply nw_ | refine bs_ ?_ (IsS107.ge HI0.out) | refine bs_ ?_ GE124.out) | exact HB.out)) hb); replace HO129 := n0_; replace HI0 := n2_; clear n0_ n2_; clear hb ho2082) | ((with_reducible refine gate_callee (f := 46) rfl ?_); have hA_ := A8.out; refine goesL_ (some 20) rfl rfl Try.func46 (by kernel_rfl) rfl #[.pointer (some ⟨g, 0, none⟩), .int .i64 6] rfl (by (try simp only [lm_, lo_, ln_]); try rfl) ?_; (with_reducible refine (spec_l20Rd_pick.calls k g s0_0 t134 6 t138 t139 w0 _ ?side1 ?side2 A8.out).mono ?_); (case side1 => repeat (first | (with_reducible first | exact HI0.out | apply IsS107.alloc | apply IsS107.drewN | apply IsS107.drew | apply IsS107.set_1 | refine IsS107.far ?_ NB0_124.out _) | exact HI0.out)); (case side2 => repeat (first | (with_reducible first | exact HB.out | apply na_ | apply nn_ | apply nw_ | refine bs_ ?_ (IsS107.ge HI0.out) | refine bs_ ?_ GE124.out) | exact HB.out)); rintro e w2120 ⟨rfl, hi, hb, hk⟩; refine ⟨_, rfl, ?_⟩; replace BK124 := mk_ (KeepBut.blk hk (g' := gb1880) (o := .cells #[.int .i64 0, .int .i64 0, .int .i64 0, .int .i64 0] 29 (0, 0)) (u_ BK124.out) NB124_0.out (by simp)); replace HO129 := mk_ (Kd.R_mono (Kd.R_keep (IsS107.apart (show IsS107 w0 _ g s0_0 t134 from by repeat (first | (with_reducible first | exact HI0.out | apply IsS107.alloc | apply IsS107.drewN | apply IsS107.drew | apply IsS107.set_1 | refine IsS107.far ?_ NB0_124.out _) | exact HI0.out)) (Kd.ur_ HO129.out) (by decide)) hk (fun _ h => h.2)) (fun _ h => h.1)); replace HO137 := mk_ (Kd.R_mono (Kd.R_keep (IsS107.apart (show IsS107 w0 _ g s0_0 t134 from by repeat (first | (with_reducible first | exact HI0.out | apply IsS107.alloc | apply IsS107.drewN | apply IsS107.drew | apply IsS107.set_1 | refine IsS107.far ?_ NB0_124.out _) | exact HI0.out)) (Kd.ur_ HO137.out) (by decide)) hk (fun _ h => h.2)) (fun _ h => h.1)); replace HK := mk_ (KeepBut.trans (by repeat (first | (with_reducible first | exact HK.out | apply KeepBut.set_ | apply keep_drewN | apply keep_drew | apply keep_alloc | refine keep_far ?_ GW124.out _) | exact HK.out)) hk (.inl rfl)); replace HB := mk_ (hb); replace HI0 := mk_ (hi); obtain ⟨Ao280137, co280137, eo280137⟩ := Kd.R_slice HO137.out; subst eo280137; have p2121 : 0 ≤ (t138 : Int) := of_decide_eq_true (by first | (with_reducible assumption) | assumption); have q2121 : t138 < (y135.length : Int) := of_decide_eq_true (by first | (with_reducible assumption) | assumption); obtain ⟨ad2121, e2121, hx140_0⟩ := Kd.at_int (Kd.R_reads' HO137.out).2.2 t138 p2121 q2121; cases e2121; replace p2121 := eq_true p2121; replace q2121 := eq_true q2121; clear hA_ A8))
  have n0_ := mk_ (Kd.R_drew HO129.out)
  have n1_ := mk_ (Kd.R_drew HO137.out)
  have n2_ := mk_ (blk_drew BK124.out)
  have n3_ := mk_ (IsS107.drew HI0.out)
  have n4_ := mk_ (keep_drew HK.out)
  have n5_ := mk_ (below_drew1 HB.out)
  clear HO129
  clear HO137
  clear BK124
  clear HI0
  clear HK
  clear HB
  have HO129 := n0_
  have HO137 := n1_
  have BK124 := n2_
  have HI0 := n3_
  have HK := n4_
  have HB := n5_
  clear n0_ n1_ n2_ n3_ n4_ n5_
  refine start_ (n := 17) (S := fun w' => True) (ds := []) #[F_, F_, F_, F_, F_, F_, F_, F_, F_, F_, F_, F_, F_, F_, F_, F_, F_] (by kernel_rfl) rfl rfl trivial (fun hHeld => ?_); refine with_tabW spec_l20Route.tab3 spec_l20Route.bits3 (fun HT_ HW_ => ?_)
 ·generalize w2120.drew = w2960 at HO129 HO137 BK124 HI0 HK HB hHeld ⊢
  refine pure_ (i := 0) (N := some 23) (v := ?_) (a' := ?_) #[T_, F_, F_, F_, F_, F_, F_, F_, F_, F_, F_, F_, F_, F_, F_, F_, F_] rfl rfl (any_of HT_.out (by kernel_rfl)) (fun _ _ _ h => h) (Or.inl ⟨by rfl, ?_⟩) ?_ ?_
  rotate_left
  ·intro w'
   go_simp
   with_reducible rfl
  rotate_left
  ·simp only [Act.put, la_, lz_, ls_, i64_w, i32_w]
   rfl
  refine pure_ (i := 1) (N := some 24) (v := ?_) (a' := ?_) #[T_, T_, F_, F_, F_, F_, F_, F_, F_, F_, F_, F_, F_, F_, F_, F_, F_] rfl rfl (any_of HT_.out (by kernel_rfl)) (fun _ _ _ h => h) (Or.inl ⟨by rfl, ?_⟩) ?_ ?_
  rotate_left
  ·intro w'
   go_simp
   with_reducible rfl
  rotate_left
  ·simp only [Act.put, la_, lz_, ls_, i64_w, i32_w]
   rfl
  refine pure_ (i := 2) (N := some 25) (v := ?_) (a' := ?_) #[T_, T_, T_, F_, F_, F_, F_, F_, F_, F_, F_, F_, F_, F_, F_, F_, F_] rfl rfl (any_of HT_.out (by kernel_rfl)) (fun _ _ _ h => h) (Or.inl ⟨by rfl, ?_⟩) ?_ ?_
  rotate_left
  ·intro w'
   go_simp
   with_reducible rfl
  rotate_left
  ·simp only [Act.put, la_, lz_, ls_, i64_w, i32_w]
   rfl
  refine pure_ (i := 3) (N := some 26) (v := ?_) (a' := ?_) #[T_, T_, T_, T_, F_, F_, F_, F_, F_, F_, F_, F_, F_, F_, F_, F_, F_] rfl rfl (any_of HT_.out (by kernel_rfl)) (fun _ _ _ h => h) (Or.inl ⟨by rfl, ?_⟩) ?_ ?_
  rotate_left
  ·intro w'
   go_simp
   with_reducible rfl
  rotate_left
  ·simp only [Act.put, la_, lz_, ls_, i64_w, i32_w]
   rfl
  refine pure_ (i := 4) (N := some 27) (v := ?_) (a' := ?_) #[T_, T_, T_, T_, T_, F_, F_, F_, F_, F_, F_, F_, F_, F_, F_, F_, F_] rfl rfl (any_of HT_.out (by kernel_rfl)) (fun _ _ _ h => h) (Or.inl ⟨by rfl, ?_⟩) ?_ ?_
  rotate_left
  ·intro w'
   go_simp
   with_reducible rfl
  rotate_left
  ·simp only [Act.put, la_, lz_, ls_, i64_w, i32_w]
   rfl
  refine pure_ (i := 5) (N := some 28) (v := ?_) (a' := ?_) #[T_, T_, T_, T_, T_, T_, F_, F_, F_, F_, F_, F_, F_, F_, F_, F_, F_] rfl rfl (any_of HT_.out (by kernel_rfl)) (fun _ _ _ h => h) (Or.inl ⟨by rfl, ?_⟩) ?_ ?_
  rotate_left
  ·intro w'
   go_simp
   with_reducible rfl
  rotate_left
  ·simp only [Act.put, la_, lz_, ls_, i64_w, i32_w]
   rfl
  refine pure_ (i := 6) (N := some 29) (v := ?_) (a' := ?_) #[T_, T_, T_, T_, T_, T_, T_, F_, F_, F_, F_, F_, F_, F_, F_, F_, F_] rfl rfl (any_of HT_.out (by kernel_rfl)) (fun _ _ _ h => h) (Or.inl ⟨by rfl, ?_⟩) ?_ ?_
  rotate_left
  ·intro w'
   go_simp
   with_reducible rfl
  rotate_left
  ·simp only [Act.put, la_, lz_, ls_, i64_w, i32_w]
   rfl
  refine pure_ (i := 7) (N := some 30) (v := ?_) (a' := ?_) #[T_, T_, T_, T_, T_, T_, T_, T_, F_, F_, F_, F_, F_, F_, F_, F_, F_] rfl rfl (any_of HT_.out (by kernel_rfl)) (fun _ _ _ h => h) (Or.inl ⟨by rfl, ?_⟩) ?_ ?_
  rotate_left
  ·intro w'
   go_simp
   with_reducible rfl
  rotate_left
  ·simp only [Act.put, la_, lz_, ls_, i64_w, i32_w]
   rfl
  refine pure_ (i := 8) (N := some 31) (v := ?_) (a' := ?_) #[T_, T_, T_, T_, T_, T_, T_, T_, T_, F_, F_, F_, F_, F_, F_, F_, F_] rfl rfl (any_of HT_.out (by kernel_rfl)) (fun _ _ _ h => h) (Or.inl ⟨by rfl, ?_⟩) ?_ ?_
  rotate_left
  ·intro w'
   go_simp
   with_reducible rfl
  rotate_left
  ·simp only [Act.put, la_, lz_, ls_, i64_w, i32_w]
   rfl
  refine pure_ (i := 10) (N := some 33) (v := ?_) (a' := ?_) #[T_, T_, T_, T_, T_, T_, T_, T_, T_, F_, T_, F_, F_, F_, F_, F_, F_] rfl rfl (any_of HT_.out (by kernel_rfl)) (fun _ _ _ h => h) (Or.inl ⟨by rfl, ?_⟩) ?_ ?_
  rotate_left
  ·intro w'
   go_simp
   with_reducible rfl
  rotate_left
  ·simp only [Act.put, la_, lz_, ls_, i64_w, i32_w]
   rfl
  refine join_ (σ := Nat) 1 #[T_, T_, T_, T_, T_, T_, T_, T_, T_, T_, T_, T_, T_, T_, T_, T_, F_] (fun s_ => [(32, .int .i64 t141), (34, .int .i64 t143), (7, .pointer (some ⟨s_, 0, none⟩)), (35, .int .i64 (wrap64 (t143 * 6))), (36, .int .i64 (wrap64 (4 + (wrap64 (t143 * 6))))), (37, .agg #[.int .i64 (wrap64 ((rd y135 t138) - (Int.tmod (rd y135 t138) (ji13)))), .int .i64 (rd y127 t130), .int .i64 t141, .int .i64 (wrap64 (4 + (wrap64 (t143 * 6))))])]) (fun s_ w' => (Kd.R (Kd.int .i64) 3 w' w.heap.size (fun k_ => some k_ ≠ (.slice (some ad2121) y135.length co280137 : Value).ownBlock) (.slice (some ad2001) y127.length co250129) y127) ∧ (Kd.R (Kd.int .i64) 3 w' w.heap.size (fun k_ => some k_ ≠ (.slice (some ad2001) y127.length co250129 : Value).ownBlock) (.slice (some ad2121) y135.length co280137) y135) ∧ (w'.heap[gb1880]? = some (.cells #[.int .i64 0, .int .i64 0, .int .i64 0, .int .i64 0] 29 (0, 0))) ∧ (w'.heap[s_]? = some (.cells #[.int .i64 0, .int .i64 0, .int .i64 0, .int .i64 0] 29 (0, 0))) ∧ (w.heap.size ≤ s_) ∧ (w0.heap.size ≤ s_) ∧ (g ≠ s_) ∧ (s_ ≠ g) ∧ (gb1880 ≠ s_) ∧ (s_ ≠ gb1880) ∧ (IsS107 w0 w' g s0_0 t144) ∧ (KeepBut w w' g none) ∧ (Below w0.heap.size w0 w')) ?_ ?_
  rotate_left
  ·intro hCont
   refine two_ (i := 9) (j := 15) (Ni := some 32) (Nj := some 7) #[T_, T_, T_, T_, T_, T_, T_, T_, T_, T_, T_, F_, F_, F_, F_, F_, F_] #[T_, T_, T_, T_, T_, T_, T_, T_, T_, F_, T_, F_, F_, F_, F_, T_, F_] rfl rfl rfl rfl (two_of HT_.out (by kernel_rfl)) (by decide) (by decide) (fun K hK => ?_) (fun K hK => ?_)
   ·skip
    refine goes_ Try.func46 (by kernel_rfl) rfl #[.pointer (some ⟨g, 0, none⟩), .int .i64 3] (by rfl) rfl rfl (by (try simp only [lm_, lo_, ln_]); try rfl) ?_
    with_reducible refine (spec_l20Rd_pick.calls k g s0_0 t139 3 t141 t142 w0 _ ?side1 ?side2 A15.out).mono ?_
    (case side1 => repeat (first | (with_reducible first | exact HI0.out | apply IsS107.alloc | apply IsS107.drewN | apply IsS107.drew | apply IsS107.set_1 | refine IsS107.far ?_ NB0_124.out _) | exact HI0.out))
    (case side2 => repeat (first | (with_reducible first | exact HB.out | apply na_ | apply nn_ | apply nw_ | refine bs_ ?_ (IsS107.ge HI0.out) | refine bs_ ?_ GE124.out) | exact HB.out))
    rintro e w5080 ⟨rfl, hi, hb, hk⟩
    refine ⟨_, rfl, ?_⟩
    have n0_ := mk_ (KeepBut.blk hk (g' := gb1880) (o := .cells #[.int .i64 0, .int .i64 0, .int .i64 0, .int .i64 0] 29 (0, 0)) (u_ BK124.out) NB124_0.out (by simp))
    have n1_ := mk_ (Kd.R_mono (Kd.R_keep (IsS107.apart (show IsS107 w0 _ g s0_0 t139 from by repeat (first | (with_reducible first | exact HI0.out | apply IsS107.alloc | apply IsS107.drewN | apply IsS107.drew | apply IsS107.set_1 | refine IsS107.far ?_ NB0_124.out _) | exact HI0.out)) (Kd.ur_ HO129.out) (by decide)) hk (fun _ h => h.2)) (fun _ h => h.1))
    have n2_ := mk_ (Kd.R_mono (Kd.R_keep (IsS107.apart (show IsS107 w0 _ g s0_0 t139 from by repeat (first | (with_reducible first | exact HI0.out | apply IsS107.alloc | apply IsS107.drewN | apply IsS107.drew | apply IsS107.set_1 | refine IsS107.far ?_ NB0_124.out _) | exact HI0.out)) (Kd.ur_ HO137.out) (by decide)) hk (fun _ h => h.2)) (fun _ h => h.1))
    have n3_ := mk_ (KeepBut.trans (by repeat (first | (with_reducible first | exact HK.out | apply KeepBut.set_ | apply keep_drewN | apply keep_drew | apply keep_alloc | refine keep_far ?_ GW124.out _) | exact HK.out)) hk (.inl rfl))
    have n4_ := mk_ (hb)
    have n5_ := mk_ (hi)
    clear BK124
    clear HO129
    clear HO137
    clear HK
    clear HB
    clear HI0
    have BK124 := n0_
    have HO129 := n1_
    have HO137 := n2_
    have HK := n3_
    have HB := n4_
    have HI0 := n5_
    clear n0_ n1_ n2_ n3_ n4_ n5_
    (try clear hb)
    (try clear hb2)
    (try clear hk)
    (try clear hi)
    refine hK.out _ _ trivial (fun hHeld => ?_)
    clear hK K
    refine norm_ (a' := ?_) ?_ ?_
    rotate_left
    ·show Act.put _ (some 32) _ = _
     simp only [Act.put, la_, lz_, ls_, i64_w, i32_w]
     rfl
    refine two_ (i := 11) (j := 15) (Ni := some 34) (Nj := some 7) #[T_, T_, T_, T_, T_, T_, T_, T_, T_, T_, T_, T_, F_, F_, F_, F_, F_] #[T_, T_, T_, T_, T_, T_, T_, T_, T_, T_, T_, F_, F_, F_, F_, T_, F_] rfl rfl rfl rfl (two_of HT_.out (by kernel_rfl)) (by decide) (by decide) (fun K hK => ?_) (fun K hK => ?_)
    ·skip
     refine goes_ Try.func46 (by kernel_rfl) rfl #[.pointer (some ⟨g, 0, none⟩), .int .i64 3] (by rfl) rfl rfl (by (try simp only [lm_, lo_, ln_]); try rfl) ?_
     with_reducible refine (spec_l20Rd_pick.calls k g s0_0 t142 3 t143 t144 w0 _ ?side1 ?side2 A16.out).mono ?_
     (case side1 => repeat (first | (with_reducible first | exact HI0.out | apply IsS107.alloc | apply IsS107.drewN | apply IsS107.drew | apply IsS107.set_1 | refine IsS107.far ?_ NB0_124.out _) | exact HI0.out))
     (case side2 => repeat (first | (with_reducible first | exact HB.out | apply na_ | apply nn_ | apply nw_ | refine bs_ ?_ (IsS107.ge HI0.out) | refine bs_ ?_ GE124.out) | exact HB.out))
     rintro e w5081 ⟨rfl, hi, hb, hk⟩
     refine ⟨_, rfl, ?_⟩
     have n0_ := mk_ (KeepBut.blk hk (g' := gb1880) (o := .cells #[.int .i64 0, .int .i64 0, .int .i64 0, .int .i64 0] 29 (0, 0)) (u_ BK124.out) NB124_0.out (by simp))
     have n1_ := mk_ (Kd.R_mono (Kd.R_keep (IsS107.apart (show IsS107 w0 _ g s0_0 t142 from by repeat (first | (with_reducible first | exact HI0.out | apply IsS107.alloc | apply IsS107.drewN | apply IsS107.drew | apply IsS107.set_1 | refine IsS107.far ?_ NB0_124.out _) | exact HI0.out)) (Kd.ur_ HO129.out) (by decide)) hk (fun _ h => h.2)) (fun _ h => h.1))
     have n2_ := mk_ (Kd.R_mono (Kd.R_keep (IsS107.apart (show IsS107 w0 _ g s0_0 t142 from by repeat (first | (with_reducible first | exact HI0.out | apply IsS107.alloc | apply IsS107.drewN | apply IsS107.drew | apply IsS107.set_1 | refine IsS107.far ?_ NB0_124.out _) | exact HI0.out)) (Kd.ur_ HO137.out) (by decide)) hk (fun _ h => h.2)) (fun _ h => h.1))
     have n3_ := mk_ (KeepBut.trans (by repeat (first | (with_reducible first | exact HK.out | apply KeepBut.set_ | apply keep_drewN | apply keep_drew | apply keep_alloc | refine keep_far ?_ GW124.out _) | exact HK.out)) hk (.inl rfl))
     have n4_ := mk_ (hb)
     have n5_ := mk_ (hi)
     clear BK124
     clear HO129
     clear HO137
     clear HK
     clear HB
     clear HI0
     have BK124 := n0_
     have HO129 := n1_
     have HO137 := n2_
     have HK := n3_
     have HB := n4_
     have HI0 := n5_
     clear n0_ n1_ n2_ n3_ n4_ n5_
     (try clear hb)
     (try clear hb2)
     (try clear hk)
     (try clear hi)
     refine hK.out _ _ trivial (fun hHeld => ?_)
     clear hK K
     refine norm_ (a' := ?_) ?_ ?_
     rotate_left
     ·show Act.put _ (some 34) _ = _
      simp only [Act.put, la_, lz_, ls_, i64_w, i32_w]
      rfl
     refine pure_ (i := 12) (N := some 35) (v := ?_) (a' := ?_) #[T_, T_, T_, T_, T_, T_, T_, T_, T_, T_, T_, T_, T_, F_, F_, F_, F_] rfl rfl (any_of HT_.out (by kernel_rfl)) (fun _ _ _ h => h) (Or.inl ⟨by rfl, ?_⟩) ?_ ?_
     rotate_left
     ·intro w'
      go_simp
      with_reducible rfl
     rotate_left
     ·simp only [Act.put, la_, lz_, ls_, i64_w, i32_w]
      rfl
     refine pure_ (i := 13) (N := some 36) (v := ?_) (a' := ?_) #[T_, T_, T_, T_, T_, T_, T_, T_, T_, T_, T_, T_, T_, T_, F_, F_, F_] rfl rfl (any_of HT_.out (by kernel_rfl)) (fun _ _ _ h => h) (Or.inl ⟨by rfl, ?_⟩) ?_ ?_
     rotate_left
     ·intro w'
      go_simp
      with_reducible rfl
     rotate_left
     ·simp only [Act.put, la_, lz_, ls_, i64_w, i32_w]
      rfl
     refine pure_ (i := 14) (N := some 37) (v := ?_) (a' := ?_) #[T_, T_, T_, T_, T_, T_, T_, T_, T_, T_, T_, T_, T_, T_, T_, F_, F_] rfl rfl (any_of HT_.out (by kernel_rfl)) (fun _ _ _ h => h) (Or.inl ⟨by rfl, ?_⟩) ?_ ?_
     rotate_left
     ·intro w'
      go_simp
      with_reducible rfl
     rotate_left
     ·simp only [Act.put, la_, lz_, ls_, i64_w, i32_w]
      rfl
     refine one_ (i := 15) (N := some 7) #[T_, T_, T_, T_, T_, T_, T_, T_, T_, T_, T_, T_, T_, T_, T_, T_, F_] rfl rfl (one_of HT_.out (by kernel_rfl)) (by decide) (fun K hK => ?_)
     refine box_step ?hg (N := 7) ?hd (cs := #[.int .i64 0, .int .i64 0, .int .i64 0, .int .i64 0]) (t := 29) ?hr ?_; (case hd => rfl); (case hg => rfl); (case hr => first | (go_simp; done) | (go_simp; rfl))
     intro gb5082 hg w5083 hbox hb
     have n0_ := mk_ (Kd.R_below (Kd.ur_ HO129.out) hb)
     have n1_ := mk_ (Kd.R_below (Kd.ur_ HO137.out) hb)
     have n2_ := mk_ (IsS107.below (by repeat (first | (with_reducible first | exact HI0.out | apply IsS107.alloc | apply IsS107.drewN | apply IsS107.drew | apply IsS107.set_1 | refine IsS107.far ?_ NB0_124.out _) | exact HI0.out)) hb)
     have n3_ := mk_ (blk_below (u_ BK124.out) hb)
     have n4_ := mk_ (KeepBut.trans (by repeat (first | (with_reducible first | exact HK.out | apply KeepBut.set_ | apply keep_drewN | apply keep_drew | apply keep_alloc | refine keep_far ?_ GW124.out _) | exact HK.out)) (KeepBut.of_below hb g none) (.inl rfl))
     have n5_ := mk_ (below_step (by repeat (first | (with_reducible first | exact HB.out | apply na_ | apply nn_ | apply nw_ | refine bs_ ?_ (IsS107.ge HI0.out) | refine bs_ ?_ GE124.out) | exact HB.out)) hb)
     have n6_ := mk_ (hbox)
     have n7_ := mk_ ((by rw [hg]; exact (keep_size (w := w) (g := g) (row := none) (by repeat (first | (with_reducible first | exact HK.out | apply KeepBut.set_ | apply keep_drewN | apply keep_drew | apply keep_alloc | refine keep_far ?_ GW124.out _) | exact HK.out))) : w.heap.size ≤ gb5082))
     have n8_ := mk_ ((Nat.le_trans HW0.out (by rw [hg]; exact (keep_size (w := w) (g := g) (row := none) (by repeat (first | (with_reducible first | exact HK.out | apply KeepBut.set_ | apply keep_drewN | apply keep_drew | apply keep_alloc | refine keep_far ?_ GW124.out _) | exact HK.out))) : w.heap.size ≤ gb5082) : w0.heap.size ≤ gb5082))
     have n9_ := mk_ ((by rw [hg]; exact Nat.ne_of_lt (blk_lt (u_ BK124.out)) : gb1880 ≠ gb5082))
     have n10_ := mk_ ((by rw [hg]; exact Nat.ne_of_gt (blk_lt (u_ BK124.out)) : gb5082 ≠ gb1880))
     have n11_ := mk_ ((by rw [hg]; exact Nat.ne_of_lt (IsS107.lt (show IsS107 w0 _ g s0_0 t144 from by repeat (first | (with_reducible first | exact HI0.out | apply IsS107.alloc | apply IsS107.drewN | apply IsS107.drew | apply IsS107.set_1 | refine IsS107.far ?_ NB0_124.out _) | exact HI0.out))) : g ≠ gb5082))
     have n12_ := mk_ ((by rw [hg]; exact Nat.ne_of_gt (IsS107.lt (show IsS107 w0 _ g s0_0 t144 from by repeat (first | (with_reducible first | exact HI0.out | apply IsS107.alloc | apply IsS107.drewN | apply IsS107.drew | apply IsS107.set_1 | refine IsS107.far ?_ NB0_124.out _) | exact HI0.out))) : gb5082 ≠ g))
     clear HO129
     clear HO137
     clear HI0
     clear BK124
     clear HK
     clear HB
     have HO129 := n0_
     have HO137 := n1_
     have HI0 := n2_
     have BK124 := n3_
     have HK := n4_
     have HB := n5_
     have BK145 := n6_
     have GW145 := n7_
     have GE145 := ge_ n8_.out
     have NB124_145 := nq_ n9_.out
     have NB145_124 := nq_ n10_.out
     have NB0_145 := nq_ n11_.out
     have NB145_0 := nq_ n12_.out
     clear n0_ n1_ n2_ n3_ n4_ n5_ n6_ n7_ n8_ n9_ n10_ n11_ n12_
     clear hb hbox hg
     refine hK.out _ _ trivial (fun hHeld => ?_)
     clear hK K
     refine norm_ (a' := ?_) ?_ ?_
     rotate_left
     ·show Act.put _ (some 7) _ = _
      simp only [Act.put, la_, lz_, ls_, i64_w, i32_w]
      rfl
     exact norm_ (by simp only [putAll, Act.put, la_, lz_, ls_]) (hCont (gb5082) _ ⟨(by (with_reducible repeat (first | apply Kd.R_alloc | apply Kd.R_drewN | apply Kd.R_drew)); exact Kd.R_mono HO129.out (fun _ hk => hk.2)), (by (with_reducible repeat (first | apply Kd.R_alloc | apply Kd.R_drewN | apply Kd.R_drew)); exact Kd.R_mono HO137.out (fun _ hk => hk.2)), (u_ BK124.out), (u_ BK145.out), GW145.out, GE145.out, NB0_145.out, NB145_0.out, NB124_145.out, NB145_124.out, (by repeat (first | (with_reducible first | exact HI0.out | apply IsS107.alloc | apply IsS107.drewN | apply IsS107.drew | apply IsS107.set_1 | refine IsS107.far ?_ NB0_124.out _ | refine IsS107.far ?_ NB0_145.out _) | exact HI0.out)), (by repeat (first | (with_reducible first | exact HK.out | apply KeepBut.set_ | apply keep_drewN | apply keep_drew | apply keep_alloc | refine keep_far ?_ GW124.out _ | refine keep_far ?_ GW145.out _) | exact HK.out)), (by repeat (first | (with_reducible first | exact HB.out | apply na_ | apply nn_ | apply nw_ | refine bs_ ?_ (IsS107.ge HI0.out) | refine bs_ ?_ GE124.out | refine bs_ ?_ GE145.out) | exact HB.out))⟩)
    skip
    refine box_step ?hg (N := 7) ?hd (cs := #[.int .i64 0, .int .i64 0, .int .i64 0, .int .i64 0]) (t := 29) ?hr ?_; (case hd => rfl); (case hg => rfl); (case hr => first | (go_simp; done) | (go_simp; rfl))
    intro gb5082 hg w5081 hbox hb
    have n0_ := mk_ (Kd.R_below (Kd.ur_ HO129.out) hb)
    have n1_ := mk_ (Kd.R_below (Kd.ur_ HO137.out) hb)
    have n2_ := mk_ (IsS107.below (by repeat (first | (with_reducible first | exact HI0.out | apply IsS107.alloc | apply IsS107.drewN | apply IsS107.drew | apply IsS107.set_1 | refine IsS107.far ?_ NB0_124.out _) | exact HI0.out)) hb)
    have n3_ := mk_ (blk_below (u_ BK124.out) hb)
    have n4_ := mk_ (KeepBut.trans (by repeat (first | (with_reducible first | exact HK.out | apply KeepBut.set_ | apply keep_drewN | apply keep_drew | apply keep_alloc | refine keep_far ?_ GW124.out _) | exact HK.out)) (KeepBut.of_below hb g none) (.inl rfl))
    have n5_ := mk_ (below_step (by repeat (first | (with_reducible first | exact HB.out | apply na_ | apply nn_ | apply nw_ | refine bs_ ?_ (IsS107.ge HI0.out) | refine bs_ ?_ GE124.out) | exact HB.out)) hb)
    have n6_ := mk_ (hbox)
    have n7_ := mk_ ((by rw [hg]; exact (keep_size (w := w) (g := g) (row := none) (by repeat (first | (with_reducible first | exact HK.out | apply KeepBut.set_ | apply keep_drewN | apply keep_drew | apply keep_alloc | refine keep_far ?_ GW124.out _) | exact HK.out))) : w.heap.size ≤ gb5082))
    have n8_ := mk_ ((Nat.le_trans HW0.out (by rw [hg]; exact (keep_size (w := w) (g := g) (row := none) (by repeat (first | (with_reducible first | exact HK.out | apply KeepBut.set_ | apply keep_drewN | apply keep_drew | apply keep_alloc | refine keep_far ?_ GW124.out _) | exact HK.out))) : w.heap.size ≤ gb5082) : w0.heap.size ≤ gb5082))
    have n9_ := mk_ ((by rw [hg]; exact Nat.ne_of_lt (blk_lt (u_ BK124.out)) : gb1880 ≠ gb5082))
    have n10_ := mk_ ((by rw [hg]; exact Nat.ne_of_gt (blk_lt (u_ BK124.out)) : gb5082 ≠ gb1880))
    have n11_ := mk_ ((by rw [hg]; exact Nat.ne_of_lt (IsS107.lt (show IsS107 w0 _ g s0_0 t142 from by repeat (first | (with_reducible first | exact HI0.out | apply IsS107.alloc | apply IsS107.drewN | apply IsS107.drew | apply IsS107.set_1 | refine IsS107.far ?_ NB0_124.out _) | exact HI0.out))) : g ≠ gb5082))
    have n12_ := mk_ ((by rw [hg]; exact Nat.ne_of_gt (IsS107.lt (show IsS107 w0 _ g s0_0 t142 from by repeat (first | (with_reducible first | exact HI0.out | apply IsS107.alloc | apply IsS107.drewN | apply IsS107.drew | apply IsS107.set_1 | refine IsS107.far ?_ NB0_124.out _) | exact HI0.out))) : gb5082 ≠ g))
    clear HO129
    clear HO137
    clear HI0
    clear BK124
    clear HK
    clear HB
    have HO129 := n0_
    have HO137 := n1_
    have HI0 := n2_
    have BK124 := n3_
    have HK := n4_
    have HB := n5_
    have BK145 := n6_
    have GW145 := n7_
    have GE145 := ge_ n8_.out
    have NB124_145 := nq_ n9_.out
    have NB145_124 := nq_ n10_.out
    have NB0_145 := nq_ n11_.out
    have NB145_0 := nq_ n12_.out
    clear n0_ n1_ n2_ n3_ n4_ n5_ n6_ n7_ n8_ n9_ n10_ n11_ n12_
    clear hb hbox hg
    refine hK.out _ _ trivial (fun hHeld => ?_)
    clear hK K
    refine norm_ (a' := ?_) ?_ ?_
    rotate_left
    ·show Act.put _ (some 7) _ = _
     simp only [Act.put, la_, lz_, ls_, i64_w, i32_w]
     rfl
    refine one_ (i := 11) (N := some 34) #[T_, T_, T_, T_, T_, T_, T_, T_, T_, T_, T_, T_, F_, F_, F_, T_, F_] rfl rfl (one_of HT_.out (by kernel_rfl)) (by decide) (fun K hK => ?_)
    refine goes_ Try.func46 (by kernel_rfl) rfl #[.pointer (some ⟨g, 0, none⟩), .int .i64 3] (by rfl) rfl rfl (by (try simp only [lm_, lo_, ln_]); try rfl) ?_
    with_reducible refine (spec_l20Rd_pick.calls k g s0_0 t142 3 t143 t144 w0 _ ?side1 ?side2 A16.out).mono ?_
    (case side1 => repeat (first | (with_reducible first | exact HI0.out | apply IsS107.alloc | apply IsS107.drewN | apply IsS107.drew | apply IsS107.set_1 | refine IsS107.far ?_ NB0_124.out _ | refine IsS107.far ?_ NB0_145.out _) | exact HI0.out))
    (case side2 => repeat (first | (with_reducible first | exact HB.out | apply na_ | apply nn_ | apply nw_ | refine bs_ ?_ (IsS107.ge HI0.out) | refine bs_ ?_ GE124.out | refine bs_ ?_ GE145.out) | exact HB.out))
    rintro e w5083 ⟨rfl, hi, hb, hk⟩
    refine ⟨_, rfl, ?_⟩
    have n0_ := mk_ (KeepBut.blk hk (g' := gb1880) (o := .cells #[.int .i64 0, .int .i64 0, .int .i64 0, .int .i64 0] 29 (0, 0)) (u_ BK124.out) NB124_0.out (by simp))
    have n1_ := mk_ (Kd.R_mono (Kd.R_keep (IsS107.apart (show IsS107 w0 _ g s0_0 t142 from by repeat (first | (with_reducible first | exact HI0.out | apply IsS107.alloc | apply IsS107.drewN | apply IsS107.drew | apply IsS107.set_1 | refine IsS107.far ?_ NB0_124.out _ | refine IsS107.far ?_ NB0_145.out _) | exact HI0.out)) (Kd.ur_ HO129.out) (by decide)) hk (fun _ h => h.2)) (fun _ h => h.1))
    have n2_ := mk_ (Kd.R_mono (Kd.R_keep (IsS107.apart (show IsS107 w0 _ g s0_0 t142 from by repeat (first | (with_reducible first | exact HI0.out | apply IsS107.alloc | apply IsS107.drewN | apply IsS107.drew | apply IsS107.set_1 | refine IsS107.far ?_ NB0_124.out _ | refine IsS107.far ?_ NB0_145.out _) | exact HI0.out)) (Kd.ur_ HO137.out) (by decide)) hk (fun _ h => h.2)) (fun _ h => h.1))
    have n3_ := mk_ (KeepBut.blk hk (g' := gb5082) (o := .cells #[.int .i64 0, .int .i64 0, .int .i64 0, .int .i64 0] 29 (0, 0)) (u_ BK145.out) NB145_0.out (by simp))
    have n4_ := mk_ (KeepBut.trans (by repeat (first | (with_reducible first | exact HK.out | apply KeepBut.set_ | apply keep_drewN | apply keep_drew | apply keep_alloc | refine keep_far ?_ GW124.out _ | refine keep_far ?_ GW145.out _) | exact HK.out)) hk (.inl rfl))
    have n5_ := mk_ (hb)
    have n6_ := mk_ (hi)
    clear BK124
    clear HO129
    clear HO137
    clear BK145
    clear HK
    clear HB
    clear HI0
    have BK124 := n0_
    have HO129 := n1_
    have HO137 := n2_
    have BK145 := n3_
    have HK := n4_
    have HB := n5_
    have HI0 := n6_
    clear n0_ n1_ n2_ n3_ n4_ n5_ n6_
    (try clear hb)
    (try clear hb2)
    (try clear hk)
    (try clear hi)
    refine hK.out _ _ trivial (fun hHeld => ?_)
    clear hK K
    refine norm_ (a' := ?_) ?_ ?_
    rotate_left
    ·show Act.put _ (some 34) _ = _
     simp only [Act.put, la_, lz_, ls_, i64_w, i32_w]
     rfl
    refine pure_ (i := 12) (N := some 35) (v := ?_) (a' := ?_) #[T_, T_, T_, T_, T_, T_, T_, T_, T_, T_, T_, T_, T_, F_, F_, T_, F_] rfl rfl (any_of HT_.out (by kernel_rfl)) (fun _ _ _ h => h) (Or.inl ⟨by rfl, ?_⟩) ?_ ?_
    rotate_left
    ·intro w'
     go_simp
     with_reducible rfl
    rotate_left
    ·simp only [Act.put, la_, lz_, ls_, i64_w, i32_w]
     rfl
    refine pure_ (i := 13) (N := some 36) (v := ?_) (a' := ?_) #[T_, T_, T_, T_, T_, T_, T_, T_, T_, T_, T_, T_, T_, T_, F_, T_, F_] rfl rfl (any_of HT_.out (by kernel_rfl)) (fun _ _ _ h => h) (Or.inl ⟨by rfl, ?_⟩) ?_ ?_
    rotate_left
    ·intro w'
     go_simp
     with_reducible rfl
    rotate_left
    ·simp only [Act.put, la_, lz_, ls_, i64_w, i32_w]
     rfl
    refine pure_ (i := 14) (N := some 37) (v := ?_) (a' := ?_) #[T_, T_, T_, T_, T_, T_, T_, T_, T_, T_, T_, T_, T_, T_, T_, T_, F_] rfl rfl (any_of HT_.out (by kernel_rfl)) (fun _ _ _ h => h) (Or.inl ⟨by rfl, ?_⟩) ?_ ?_
    rotate_left
    ·intro w'
     go_simp
     with_reducible rfl
    rotate_left
    ·simp only [Act.put, la_, lz_, ls_, i64_w, i32_w]
     rfl
    exact norm_ (by simp only [putAll, Act.put, la_, lz_, ls_]) (hCont (gb5082) _ ⟨(by (with_reducible repeat (first | apply Kd.R_alloc | apply Kd.R_drewN | apply Kd.R_drew)); exact Kd.R_mono HO129.out (fun _ hk => hk.2)), (by (with_reducible repeat (first | apply Kd.R_alloc | apply Kd.R_drewN | apply Kd.R_drew)); exact Kd.R_mono HO137.out (fun _ hk => hk.2)), (u_ BK124.out), (u_ BK145.out), GW145.out, GE145.out, NB0_145.out, NB145_0.out, NB124_145.out, NB145_124.out, (by repeat (first | (with_reducible first | exact HI0.out | apply IsS107.alloc | apply IsS107.drewN | apply IsS107.drew | apply IsS107.set_1 | refine IsS107.far ?_ NB0_124.out _ | refine IsS107.far ?_ NB0_145.out _) | exact HI0.out)), (by repeat (first | (with_reducible first | exact HK.out | apply KeepBut.set_ | apply keep_drewN | apply keep_drew | apply keep_alloc | refine keep_far ?_ GW124.out _ | refine keep_far ?_ GW145.out _) | exact HK.out)), (by repeat (first | (with_reducible first | exact HB.out | apply na_ | apply nn_ | apply nw_ | refine bs_ ?_ (IsS107.ge HI0.out) | refine bs_ ?_ GE124.out | refine bs_ ?_ GE145.out) | exact HB.out))⟩)
   skip
   refine box_step ?hg (N := 7) ?hd (cs := #[.int .i64 0, .int .i64 0, .int .i64 0, .int .i64 0]) (t := 29) ?hr ?_; (case hd => rfl); (case hg => rfl); (case hr => first | (go_simp; done) | (go_simp; rfl))
   intro gb5082 hg w5080 hbox hb
   have n0_ := mk_ (Kd.R_below (Kd.ur_ HO129.out) hb)
   have n1_ := mk_ (Kd.R_below (Kd.ur_ HO137.out) hb)
   have n2_ := mk_ (IsS107.below (by repeat (first | (with_reducible first | exact HI0.out | apply IsS107.alloc | apply IsS107.drewN | apply IsS107.drew | apply IsS107.set_1 | refine IsS107.far ?_ NB0_124.out _) | exact HI0.out)) hb)
   have n3_ := mk_ (blk_below (u_ BK124.out) hb)
   have n4_ := mk_ (KeepBut.trans (by repeat (first | (with_reducible first | exact HK.out | apply KeepBut.set_ | apply keep_drewN | apply keep_drew | apply keep_alloc | refine keep_far ?_ GW124.out _) | exact HK.out)) (KeepBut.of_below hb g none) (.inl rfl))
   have n5_ := mk_ (below_step (by repeat (first | (with_reducible first | exact HB.out | apply na_ | apply nn_ | apply nw_ | refine bs_ ?_ (IsS107.ge HI0.out) | refine bs_ ?_ GE124.out) | exact HB.out)) hb)
   have n6_ := mk_ (hbox)
   have n7_ := mk_ ((by rw [hg]; exact (keep_size (w := w) (g := g) (row := none) (by repeat (first | (with_reducible first | exact HK.out | apply KeepBut.set_ | apply keep_drewN | apply keep_drew | apply keep_alloc | refine keep_far ?_ GW124.out _) | exact HK.out))) : w.heap.size ≤ gb5082))
   have n8_ := mk_ ((Nat.le_trans HW0.out (by rw [hg]; exact (keep_size (w := w) (g := g) (row := none) (by repeat (first | (with_reducible first | exact HK.out | apply KeepBut.set_ | apply keep_drewN | apply keep_drew | apply keep_alloc | refine keep_far ?_ GW124.out _) | exact HK.out))) : w.heap.size ≤ gb5082) : w0.heap.size ≤ gb5082))
   have n9_ := mk_ ((by rw [hg]; exact Nat.ne_of_lt (blk_lt (u_ BK124.out)) : gb1880 ≠ gb5082))
   have n10_ := mk_ ((by rw [hg]; exact Nat.ne_of_gt (blk_lt (u_ BK124.out)) : gb5082 ≠ gb1880))
   have n11_ := mk_ ((by rw [hg]; exact Nat.ne_of_lt (IsS107.lt (show IsS107 w0 _ g s0_0 t139 from by repeat (first | (with_reducible first | exact HI0.out | apply IsS107.alloc | apply IsS107.drewN | apply IsS107.drew | apply IsS107.set_1 | refine IsS107.far ?_ NB0_124.out _) | exact HI0.out))) : g ≠ gb5082))
   have n12_ := mk_ ((by rw [hg]; exact Nat.ne_of_gt (IsS107.lt (show IsS107 w0 _ g s0_0 t139 from by repeat (first | (with_reducible first | exact HI0.out | apply IsS107.alloc | apply IsS107.drewN | apply IsS107.drew | apply IsS107.set_1 | refine IsS107.far ?_ NB0_124.out _) | exact HI0.out))) : gb5082 ≠ g))
   clear HO129
   clear HO137
   clear HI0
   clear BK124
   clear HK
   clear HB
   have HO129 := n0_
   have HO137 := n1_
   have HI0 := n2_
   have BK124 := n3_
   have HK := n4_
   have HB := n5_
   have BK145 := n6_
   have GW145 := n7_
   have GE145 := ge_ n8_.out
   have NB124_145 := nq_ n9_.out
   have NB145_124 := nq_ n10_.out
   have NB0_145 := nq_ n11_.out
   have NB145_0 := nq_ n12_.out
   clear n0_ n1_ n2_ n3_ n4_ n5_ n6_ n7_ n8_ n9_ n10_ n11_ n12_
   clear hb hbox hg
   refine hK.out _ _ trivial (fun hHeld => ?_)
   clear hK K
   refine norm_ (a' := ?_) ?_ ?_
   rotate_left
   ·show Act.put _ (some 7) _ = _
    simp only [Act.put, la_, lz_, ls_, i64_w, i32_w]
    rfl
   refine one_ (i := 9) (N := some 32) #[T_, T_, T_, T_, T_, T_, T_, T_, T_, T_, T_, F_, F_, F_, F_, T_, F_] rfl rfl (one_of HT_.out (by kernel_rfl)) (by decide) (fun K hK => ?_)
   refine goes_ Try.func46 (by kernel_rfl) rfl #[.pointer (some ⟨g, 0, none⟩), .int .i64 3] (by rfl) rfl rfl (by (try simp only [lm_, lo_, ln_]); try rfl) ?_
   with_reducible refine (spec_l20Rd_pick.calls k g s0_0 t139 3 t141 t142 w0 _ ?side1 ?side2 A15.out).mono ?_
   (case side1 => repeat (first | (with_reducible first | exact HI0.out | apply IsS107.alloc | apply IsS107.drewN | apply IsS107.drew | apply IsS107.set_1 | refine IsS107.far ?_ NB0_124.out _ | refine IsS107.far ?_ NB0_145.out _) | exact HI0.out))
   (case side2 => repeat (first | (with_reducible first | exact HB.out | apply na_ | apply nn_ | apply nw_ | refine bs_ ?_ (IsS107.ge HI0.out) | refine bs_ ?_ GE124.out | refine bs_ ?_ GE145.out) | exact HB.out))
   rintro e w5081 ⟨rfl, hi, hb, hk⟩
   refine ⟨_, rfl, ?_⟩
   have n0_ := mk_ (KeepBut.blk hk (g' := gb1880) (o := .cells #[.int .i64 0, .int .i64 0, .int .i64 0, .int .i64 0] 29 (0, 0)) (u_ BK124.out) NB124_0.out (by simp))
   have n1_ := mk_ (Kd.R_mono (Kd.R_keep (IsS107.apart (show IsS107 w0 _ g s0_0 t139 from by repeat (first | (with_reducible first | exact HI0.out | apply IsS107.alloc | apply IsS107.drewN | apply IsS107.drew | apply IsS107.set_1 | refine IsS107.far ?_ NB0_124.out _ | refine IsS107.far ?_ NB0_145.out _) | exact HI0.out)) (Kd.ur_ HO129.out) (by decide)) hk (fun _ h => h.2)) (fun _ h => h.1))
   have n2_ := mk_ (Kd.R_mono (Kd.R_keep (IsS107.apart (show IsS107 w0 _ g s0_0 t139 from by repeat (first | (with_reducible first | exact HI0.out | apply IsS107.alloc | apply IsS107.drewN | apply IsS107.drew | apply IsS107.set_1 | refine IsS107.far ?_ NB0_124.out _ | refine IsS107.far ?_ NB0_145.out _) | exact HI0.out)) (Kd.ur_ HO137.out) (by decide)) hk (fun _ h => h.2)) (fun _ h => h.1))
   have n3_ := mk_ (KeepBut.blk hk (g' := gb5082) (o := .cells #[.int .i64 0, .int .i64 0, .int .i64 0, .int .i64 0] 29 (0, 0)) (u_ BK145.out) NB145_0.out (by simp))
   have n4_ := mk_ (KeepBut.trans (by repeat (first | (with_reducible first | exact HK.out | apply KeepBut.set_ | apply keep_drewN | apply keep_drew | apply keep_alloc | refine keep_far ?_ GW124.out _ | refine keep_far ?_ GW145.out _) | exact HK.out)) hk (.inl rfl))
   have n5_ := mk_ (hb)
   have n6_ := mk_ (hi)
   clear BK124
   clear HO129
   clear HO137
   clear BK145
   clear HK
   clear HB
   clear HI0
   have BK124 := n0_
   have HO129 := n1_
   have HO137 := n2_
   have BK145 := n3_
   have HK := n4_
   have HB := n5_
   have HI0 := n6_
   clear n0_ n1_ n2_ n3_ n4_ n5_ n6_
   (try clear hb)
   (try clear hb2)
   (try clear hk)
   (try clear hi)
   refine hK.out _ _ trivial (fun hHeld => ?_)
   clear hK K
   refine norm_ (a' := ?_) ?_ ?_
   rotate_left
   ·show Act.put _ (some 32) _ = _
    simp only [Act.put, la_, lz_, ls_, i64_w, i32_w]
    rfl
   refine one_ (i := 11) (N := some 34) #[T_, T_, T_, T_, T_, T_, T_, T_, T_, T_, T_, T_, F_, F_, F_, T_, F_] rfl rfl (one_of HT_.out (by kernel_rfl)) (by decide) (fun K hK => ?_)
   refine goes_ Try.func46 (by kernel_rfl) rfl #[.pointer (some ⟨g, 0, none⟩), .int .i64 3] (by rfl) rfl rfl (by (try simp only [lm_, lo_, ln_]); try rfl) ?_
   with_reducible refine (spec_l20Rd_pick.calls k g s0_0 t142 3 t143 t144 w0 _ ?side1 ?side2 A16.out).mono ?_
   (case side1 => repeat (first | (with_reducible first | exact HI0.out | apply IsS107.alloc | apply IsS107.drewN | apply IsS107.drew | apply IsS107.set_1 | refine IsS107.far ?_ NB0_124.out _ | refine IsS107.far ?_ NB0_145.out _) | exact HI0.out))
   (case side2 => repeat (first | (with_reducible first | exact HB.out | apply na_ | apply nn_ | apply nw_ | refine bs_ ?_ (IsS107.ge HI0.out) | refine bs_ ?_ GE124.out | refine bs_ ?_ GE145.out) | exact HB.out))
   rintro e w5083 ⟨rfl, hi, hb, hk⟩
   refine ⟨_, rfl, ?_⟩
   have n0_ := mk_ (KeepBut.blk hk (g' := gb1880) (o := .cells #[.int .i64 0, .int .i64 0, .int .i64 0, .int .i64 0] 29 (0, 0)) (u_ BK124.out) NB124_0.out (by simp))
   have n1_ := mk_ (Kd.R_mono (Kd.R_keep (IsS107.apart (show IsS107 w0 _ g s0_0 t142 from by repeat (first | (with_reducible first | exact HI0.out | apply IsS107.alloc | apply IsS107.drewN | apply IsS107.drew | apply IsS107.set_1 | refine IsS107.far ?_ NB0_124.out _ | refine IsS107.far ?_ NB0_145.out _) | exact HI0.out)) (Kd.ur_ HO129.out) (by decide)) hk (fun _ h => h.2)) (fun _ h => h.1))
   have n2_ := mk_ (Kd.R_mono (Kd.R_keep (IsS107.apart (show IsS107 w0 _ g s0_0 t142 from by repeat (first | (with_reducible first | exact HI0.out | apply IsS107.alloc | apply IsS107.drewN | apply IsS107.drew | apply IsS107.set_1 | refine IsS107.far ?_ NB0_124.out _ | refine IsS107.far ?_ NB0_145.out _) | exact HI0.out)) (Kd.ur_ HO137.out) (by decide)) hk (fun _ h => h.2)) (fun _ h => h.1))
   have n3_ := mk_ (KeepBut.blk hk (g' := gb5082) (o := .cells #[.int .i64 0, .int .i64 0, .int .i64 0, .int .i64 0] 29 (0, 0)) (u_ BK145.out) NB145_0.out (by simp))
   have n4_ := mk_ (KeepBut.trans (by repeat (first | (with_reducible first | exact HK.out | apply KeepBut.set_ | apply keep_drewN | apply keep_drew | apply keep_alloc | refine keep_far ?_ GW124.out _ | refine keep_far ?_ GW145.out _) | exact HK.out)) hk (.inl rfl))
   have n5_ := mk_ (hb)
   have n6_ := mk_ (hi)
   clear BK124
   clear HO129
   clear HO137
   clear BK145
   clear HK
   clear HB
   clear HI0
   have BK124 := n0_
   have HO129 := n1_
   have HO137 := n2_
   have BK145 := n3_
   have HK := n4_
   have HB := n5_
   have HI0 := n6_
   clear n0_ n1_ n2_ n3_ n4_ n5_ n6_
   (try clear hb)
   (try clear hb2)
   (try clear hk)
   (try clear hi)
   refine hK.out _ _ trivial (fun hHeld => ?_)
   clear hK K
   refine norm_ (a' := ?_) ?_ ?_
   rotate_left
   ·show Act.put _ (some 34) _ = _
    simp only [Act.put, la_, lz_, ls_, i64_w, i32_w]
    rfl
   refine pure_ (i := 12) (N := some 35) (v := ?_) (a' := ?_) #[T_, T_, T_, T_, T_, T_, T_, T_, T_, T_, T_, T_, T_, F_, F_, T_, F_] rfl rfl (any_of HT_.out (by kernel_rfl)) (fun _ _ _ h => h) (Or.inl ⟨by rfl, ?_⟩) ?_ ?_
   rotate_left
   ·intro w'
    go_simp
    with_reducible rfl
   rotate_left
   ·simp only [Act.put, la_, lz_, ls_, i64_w, i32_w]
    rfl
   refine pure_ (i := 13) (N := some 36) (v := ?_) (a' := ?_) #[T_, T_, T_, T_, T_, T_, T_, T_, T_, T_, T_, T_, T_, T_, F_, T_, F_] rfl rfl (any_of HT_.out (by kernel_rfl)) (fun _ _ _ h => h) (Or.inl ⟨by rfl, ?_⟩) ?_ ?_
   rotate_left
   ·intro w'
    go_simp
    with_reducible rfl
   rotate_left
   ·simp only [Act.put, la_, lz_, ls_, i64_w, i32_w]
    rfl
   refine pure_ (i := 14) (N := some 37) (v := ?_) (a' := ?_) #[T_, T_, T_, T_, T_, T_, T_, T_, T_, T_, T_, T_, T_, T_, T_, T_, F_] rfl rfl (any_of HT_.out (by kernel_rfl)) (fun _ _ _ h => h) (Or.inl ⟨by rfl, ?_⟩) ?_ ?_
   rotate_left
   ·intro w'
    go_simp
    with_reducible rfl
   rotate_left
   ·simp only [Act.put, la_, lz_, ls_, i64_w, i32_w]
    rfl
   exact norm_ (by simp only [putAll, Act.put, la_, lz_, ls_]) (hCont (gb5082) _ ⟨(by (with_reducible repeat (first | apply Kd.R_alloc | apply Kd.R_drewN | apply Kd.R_drew)); exact Kd.R_mono HO129.out (fun _ hk => hk.2)), (by (with_reducible repeat (first | apply Kd.R_alloc | apply Kd.R_drewN | apply Kd.R_drew)); exact Kd.R_mono HO137.out (fun _ hk => hk.2)), (u_ BK124.out), (u_ BK145.out), GW145.out, GE145.out, NB0_145.out, NB145_0.out, NB124_145.out, NB145_124.out, (by repeat (first | (with_reducible first | exact HI0.out | apply IsS107.alloc | apply IsS107.drewN | apply IsS107.drew | apply IsS107.set_1 | refine IsS107.far ?_ NB0_124.out _ | refine IsS107.far ?_ NB0_145.out _) | exact HI0.out)), (by repeat (first | (with_reducible first | exact HK.out | apply KeepBut.set_ | apply keep_drewN | apply keep_drew | apply keep_alloc | refine keep_far ?_ GW124.out _ | refine keep_far ?_ GW145.out _) | exact HK.out)), (by repeat (first | (with_reducible first | exact HB.out | apply na_ | apply nn_ | apply nw_ | refine bs_ ?_ (IsS107.ge HI0.out) | refine bs_ ?_ GE124.out | refine bs_ ?_ GE145.out) | exact HB.out))⟩)
  rintro gb5082 w5120 ⟨h0_, h1_, h2_, h3_, h4_, h5_, h6_, h7_, h8_, h9_, h10_, h11_, h12_⟩
  have n0_ : Aside0 (Kd.R (Kd.int .i64) 3 w5120 w.heap.size (fun k_ => some k_ ≠ (.slice (some ad2121) y135.length co280137 : Value).ownBlock) (.slice (some ad2001) y127.length co250129) y127) := ⟨h0_⟩
  have n1_ : Aside0 (Kd.R (Kd.int .i64) 3 w5120 w.heap.size (fun k_ => some k_ ≠ (.slice (some ad2001) y127.length co250129 : Value).ownBlock) (.slice (some ad2121) y135.length co280137) y135) := ⟨h1_⟩
  have n2_ : Aside0 (w5120.heap[gb1880]? = some (.cells #[.int .i64 0, .int .i64 0, .int .i64 0, .int .i64 0] 29 (0, 0))) := ⟨h2_⟩
  have n3_ : Aside0 (w5120.heap[gb5082]? = some (.cells #[.int .i64 0, .int .i64 0, .int .i64 0, .int .i64 0] 29 (0, 0))) := ⟨h3_⟩
  have n4_ : Aside0 (w.heap.size ≤ gb5082) := ⟨h4_⟩
  have n5_ : Aside0 (w0.heap.size ≤ gb5082) := ⟨h5_⟩
  have n6_ : Aside0 (g ≠ gb5082) := ⟨h6_⟩
  have n7_ : Aside0 (gb5082 ≠ g) := ⟨h7_⟩
  have n8_ : Aside0 (gb1880 ≠ gb5082) := ⟨h8_⟩
  have n9_ : Aside0 (gb5082 ≠ gb1880) := ⟨h9_⟩
  have n10_ : Aside0 (IsS107 w0 w5120 g s0_0 t144) := ⟨h10_⟩
  have n11_ : Aside0 (KeepBut w w5120 g none) := ⟨h11_⟩
  have n12_ : Aside0 (Below w0.heap.size w0 w5120) := ⟨h12_⟩
  clear HO129
  clear HO137
  clear BK124
  clear HI0
  clear HK
  clear HB
  clear h0_ h1_ h2_ h3_ h4_ h5_ h6_ h7_ h8_ h9_ h10_ h11_ h12_
  have HO129 := n0_
  have HO137 := n1_
  have BK124 := n2_
  have BK145 := n3_
  have GW145 := n4_
  have GE145 := ge_ n5_.out
  have NB0_145 := nq_ n6_.out
  have NB145_0 := nq_ n7_.out
  have NB124_145 := nq_ n8_.out
  have NB145_124 := nq_ n9_.out
  have HI0 := n10_
  have HK := n11_
  have HB := n12_
  clear n0_ n1_ n2_ n3_ n4_ n5_ n6_ n7_ n8_ n9_ n10_ n11_ n12_
  have hHeld := trivial
  refine norm_ (a' := ?_) ?_ ?_
  rotate_left
  ·simp only [putAll, Act.put, la_, lz_, ls_]
   rfl
  refine one_ (i := 16) (N := none) #[T_, T_, T_, T_, T_, T_, T_, T_, T_, T_, T_, T_, T_, T_, T_, T_, T_] rfl rfl (one_of HT_.out (by kernel_rfl)) (by decide) (fun K hK => ?_)
  have hs6720 : w5120.cell? ⟨gb5082, 0, none⟩ = some (.int .i64 0) := (blk_cell BK145.out 0).trans rfl
  have hfs6720 := blk_frozen BK145.out 0
  have hns6720_0 := NB124_145.out
  have hms6720_0 := NB145_124.out
  have hs1880 : w5120.cell? ⟨gb5082, 1, none⟩ = some (.int .i64 0) := (blk_cell BK145.out 1).trans rfl
  have hfs1880 := blk_frozen BK145.out 1
  have hns1880_0 := NB124_145.out
  have hms1880_0 := NB145_124.out
  have hs7040 : w5120.cell? ⟨gb5082, 2, none⟩ = some (.int .i64 0) := (blk_cell BK145.out 2).trans rfl
  have hfs7040 := blk_frozen BK145.out 2
  have hns7040_0 := NB124_145.out
  have hms7040_0 := NB145_124.out
  have hs7200 : w5120.cell? ⟨gb5082, 3, none⟩ = some (.int .i64 0) := (blk_cell BK145.out 3).trans rfl
  have hfs7200 := blk_frozen BK145.out 3
  have hns7200_0 := NB124_145.out
  have hms7200_0 := NB145_124.out
  refine skip_ (w1 := ?_) (by rfl) rfl ?_ ?_
  rotate_left
  ·go_simp
   rfl
  refine hK.out _ _ trivial (fun hHeld => ?_)
  clear hK K
  refine done_ (done_of HT_.out (by kernel_rfl)) ?_
  try go_wp2_with (first | ((with_reducible refine gate_callee (f := 90) rfl ?_); refine goesL_ (some 40) rfl rfl Try.func90 (by kernel_rfl) rfl #[.pointer (some ⟨g, 0, none⟩), .int .i64 a1] rfl (by (try simp only [lm_, lo_, ln_]); try rfl) ?_; (with_reducible refine (spec_l20Rd_odd.calls k g s0_0 t144 a1 false t147 w0 _ ?side1 ?side2 A17.out).mono ?_); (case side1 => repeat (first | (with_reducible first | exact HI0.out | apply IsS107.alloc | apply IsS107.drewN | apply IsS107.drew | apply IsS107.set_1 | refine IsS107.far ?_ NB0_124.out _ | refine IsS107.far ?_ NB0_145.out _) | exact HI0.out)); (case side2 => repeat (first | (with_reducible first | exact HB.out | apply na_ | apply nn_ | apply nw_ | refine bs_ ?_ (IsS107.ge HI0.out) | refine bs_ ?_ GE124.out | refine bs_ ?_ GE145.out) | exact HB.out)); rintro e w7600 ⟨rfl, hi, hb, hk⟩; refine ⟨_, rfl, ?_⟩; replace BK124 := mk_ (KeepBut.blk hk (g' := gb1880) (o := .cells #[.int .i64 0, .int .i64 0, .int .i64 0, .int .i64 0] 29 (0, 0)) (uf_ BK124.out) NB124_0.out (by simp)); replace HO129 := mk_ (Kd.R_mono (Kd.R_keep (IsS107.apart (show IsS107 w0 _ g s0_0 t144 from by repeat (first | (with_reducible first | exact HI0.out | apply IsS107.alloc | apply IsS107.drewN | apply IsS107.drew | apply IsS107.set_1 | refine IsS107.far ?_ NB0_124.out _ | refine IsS107.far ?_ NB0_145.out _) | exact HI0.out)) (by (with_reducible repeat (first | apply Kd.R_alloc | apply Kd.R_drewN | apply Kd.R_drew)); exact (Kd.R_mono (Kd.R_far (p := ⟨gb5082, 3, none⟩) (Kd.R_far (p := ⟨gb5082, 2, none⟩) (Kd.R_far (p := ⟨gb5082, 1, none⟩) (Kd.R_far (p := ⟨gb5082, 0, none⟩) (Kd.R_types HO129.out BK145.out (by decide)) (fun _ hk => hk.2) (.int .i64 (wrap64 ((rd y135 t138) - (Int.tmod (rd y135 t138) (ji13)))))) (fun _ hk => hk.2) (.int .i64 (rd y127 t130))) (fun _ hk => hk.2) (.int .i64 t141)) (fun _ hk => hk.2) (.int .i64 (wrap64 (4 + (wrap64 (t143 * 6)))))) (fun _ h_ => by first | exact h_.1 | simp only [h_, ne_eq, not_false_eq_true, and_self]))) (by decide)) hk (fun _ h => h.2)) (fun _ h => h.1)); replace HO137 := mk_ (Kd.R_mono (Kd.R_keep (IsS107.apart (show IsS107 w0 _ g s0_0 t144 from by repeat (first | (with_reducible first | exact HI0.out | apply IsS107.alloc | apply IsS107.drewN | apply IsS107.drew | apply IsS107.set_1 | refine IsS107.far ?_ NB0_124.out _ | refine IsS107.far ?_ NB0_145.out _) | exact HI0.out)) (by (with_reducible repeat (first | apply Kd.R_alloc | apply Kd.R_drewN | apply Kd.R_drew)); exact (Kd.R_mono (Kd.R_far (p := ⟨gb5082, 3, none⟩) (Kd.R_far (p := ⟨gb5082, 2, none⟩) (Kd.R_far (p := ⟨gb5082, 1, none⟩) (Kd.R_far (p := ⟨gb5082, 0, none⟩) (Kd.R_types HO137.out BK145.out (by decide)) (fun _ hk => hk.2) (.int .i64 (wrap64 ((rd y135 t138) - (Int.tmod (rd y135 t138) (ji13)))))) (fun _ hk => hk.2) (.int .i64 (rd y127 t130))) (fun _ hk => hk.2) (.int .i64 t141)) (fun _ hk => hk.2) (.int .i64 (wrap64 (4 + (wrap64 (t143 * 6)))))) (fun _ h_ => by first | exact h_.1 | simp only [h_, ne_eq, not_false_eq_true, and_self]))) (by decide)) hk (fun _ h => h.2)) (fun _ h => h.1)); replace BK145 := mk_ (KeepBut.blk hk (g' := gb5082) (o := .cells #[.int .i64 (wrap64 ((rd y135 t138) - (Int.tmod (rd y135 t138) (ji13)))), .int .i64 (rd y127 t130), .int .i64 t141, .int .i64 (wrap64 (4 + (wrap64 (t143 * 6))))] 29 (0, 0)) (by (with_reducible repeat (first | refine bn_ ?_ _ | refine bw_ ?_ | refine ba_ ?_ _)); refine blk_put (cs := #[.int .i64 (wrap64 ((rd y135 t138) - (Int.tmod (rd y135 t138) (ji13)))), .int .i64 (rd y127 t130), .int .i64 t141, .int .i64 0]) ?_ 3 _ rfl; (with_reducible repeat (first | refine bn_ ?_ _ | refine bw_ ?_ | refine ba_ ?_ _)); refine blk_put (cs := #[.int .i64 (wrap64 ((rd y135 t138) - (Int.tmod (rd y135 t138) (ji13)))), .int .i64 (rd y127 t130), .int .i64 0, .int .i64 0]) ?_ 2 _ rfl; (with_reducible repeat (first | refine bn_ ?_ _ | refine bw_ ?_ | refine ba_ ?_ _)); refine blk_put (cs := #[.int .i64 (wrap64 ((rd y135 t138) - (Int.tmod (rd y135 t138) (ji13)))), .int .i64 0, .int .i64 0, .int .i64 0]) ?_ 1 _ rfl; (with_reducible repeat (first | refine bn_ ?_ _ | refine bw_ ?_ | refine ba_ ?_ _)); refine blk_put (cs := #[.int .i64 0, .int .i64 0, .int .i64 0, .int .i64 0]) ?_ 0 _ rfl; (with_reducible repeat (first | refine bn_ ?_ _ | refine bw_ ?_ | refine ba_ ?_ _)); exact BK145.out) NB145_0.out (by simp)); replace HK := mk_ (KeepBut.trans (by repeat (first | (with_reducible first | exact HK.out | apply KeepBut.set_ | apply keep_drewN | apply keep_drew | apply keep_alloc | refine keep_far ?_ GW124.out _ | refine keep_far ?_ GW145.out _) | exact HK.out)) hk (.inl rfl)); replace HB := mk_ (hb); replace HI0 := mk_ (hi); have hnb1960 := NB145_124.out; have hnc1960 := NB124_145.out; have hnb16500145 := NB145_0.out; have hnc16500145 := NB0_145.out; obtain ⟨_, _, _, _, _, _, _, _⟩ := cells4_ BK145.out; have hnb16500124 := NB124_0.out; have hnc16500124 := NB0_124.out; obtain ⟨_, _, _, _, _, _, _, _⟩ := cells4_ BK124.out))
  refine bodyPost_ret (results_cell_row rfl _ _ gb1880 29 #[.int .i64 (wrap64 ((rd y135 t138) - (Int.tmod (rd y135 t138) (ji13)))), .int .i64 (rd y127 t130), .int .i64 t141, .int .i64 (wrap64 (4 + (wrap64 (t143 * 6))))] (0, 0) _ rfl (by (with_reducible repeat (first | refine bn_ ?_ _ | refine bw_ ?_ | refine ba_ ?_ _)); refine blk_put (cs := #[.int .i64 (wrap64 ((rd y135 t138) - (Int.tmod (rd y135 t138) (ji13)))), .int .i64 (rd y127 t130), .int .i64 t141, .int .i64 0]) ?_ 3 _ rfl; (with_reducible repeat (first | refine bn_ ?_ _ | refine bw_ ?_ | refine ba_ ?_ _)); refine blk_put (cs := #[.int .i64 (wrap64 ((rd y135 t138) - (Int.tmod (rd y135 t138) (ji13)))), .int .i64 (rd y127 t130), .int .i64 0, .int .i64 0]) ?_ 2 _ rfl; (with_reducible repeat (first | refine bn_ ?_ _ | refine bw_ ?_ | refine ba_ ?_ _)); refine blk_put (cs := #[.int .i64 (wrap64 ((rd y135 t138) - (Int.tmod (rd y135 t138) (ji13)))), .int .i64 0, .int .i64 0, .int .i64 0]) ?_ 1 _ rfl; (with_reducible repeat (first | refine bn_ ?_ _ | refine bw_ ?_ | refine ba_ ?_ _)); refine blk_put (cs := #[.int .i64 0, .int .i64 0, .int .i64 0, .int .i64 0]) ?_ 0 _ rfl; (with_reducible repeat (first | refine bn_ ?_ _ | refine bw_ ?_ | refine ba_ ?_ _)); exact BK124.out) Try.underlying29 rfl (by kernel_rfl)) rfl ?_
  exact ⟨by first | rfl | (simp [errW_none, errW_some] <;> rfl) | (simp only [← hji11, ← hji13]; first | rfl | (simp [errW_none, errW_some] <;> rfl)) | (simp [*, errW_none, errW_some] <;> rfl), by repeat (first | (with_reducible first | exact HI0.out | apply IsS107.alloc | apply IsS107.drewN | apply IsS107.drew | apply IsS107.set_1 | refine IsS107.far ?_ NB0_124.out _ | refine IsS107.far ?_ NB0_145.out _) | exact HI0.out), by repeat (first | (with_reducible first | exact HB.out | apply na_ | apply nn_ | apply nw_ | refine bs_ ?_ (IsS107.ge HI0.out) | refine bs_ ?_ GE124.out | refine bs_ ?_ GE145.out) | exact HB.out), by repeat (first | (with_reducible first | exact HK.out | apply KeepBut.set_ | apply keep_drewN | apply keep_drew | apply keep_alloc | refine keep_far ?_ GW124.out _ | refine keep_far ?_ GW145.out _) | exact HK.out)⟩
 all_goals
  generalize w2120.drew = w7680 at HO129 HO137 BK124 HI0 HK HB hHeld ⊢
  refine pure_ (i := 0) (N := some 23) (v := ?_) (a' := ?_) #[T_, F_, F_, F_, F_, F_, F_, F_, F_, F_, F_, F_, F_, F_, F_, F_, F_] rfl rfl (any_of HT_.out (by kernel_rfl)) (fun _ _ _ h => h) (Or.inl ⟨by rfl, ?_⟩) ?_ ?_
  rotate_left
  ·intro w'
   go_simp
   with_reducible rfl
  rotate_left
  ·simp only [Act.put, la_, lz_, ls_, i64_w, i32_w]
   rfl
  refine pure_ (i := 1) (N := some 24) (v := ?_) (a' := ?_) #[T_, T_, F_, F_, F_, F_, F_, F_, F_, F_, F_, F_, F_, F_, F_, F_, F_] rfl rfl (any_of HT_.out (by kernel_rfl)) (fun _ _ _ h => h) (Or.inl ⟨by rfl, ?_⟩) ?_ ?_
  rotate_left
  ·intro w'
   go_simp
   with_reducible rfl
  rotate_left
  ·simp only [Act.put, la_, lz_, ls_, i64_w, i32_w]
   rfl
  refine pure_ (i := 2) (N := some 25) (v := ?_) (a' := ?_) #[T_, T_, T_, F_, F_, F_, F_, F_, F_, F_, F_, F_, F_, F_, F_, F_, F_] rfl rfl (any_of HT_.out (by kernel_rfl)) (fun _ _ _ h => h) (Or.inl ⟨by rfl, ?_⟩) ?_ ?_
  rotate_left
  ·intro w'
   go_simp
   with_reducible rfl
  rotate_left
  ·simp only [Act.put, la_, lz_, ls_, i64_w, i32_w]
   rfl
  refine pure_ (i := 3) (N := some 26) (v := ?_) (a' := ?_) #[T_, T_, T_, T_, F_, F_, F_, F_, F_, F_, F_, F_, F_, F_, F_, F_, F_] rfl rfl (any_of HT_.out (by kernel_rfl)) (fun _ _ _ h => h) (Or.inl ⟨by rfl, ?_⟩) ?_ ?_
  rotate_left
  ·intro w'
   go_simp
   with_reducible rfl
  rotate_left
  ·simp only [Act.put, la_, lz_, ls_, i64_w, i32_w]
   rfl
  refine pure_ (i := 4) (N := some 27) (v := ?_) (a' := ?_) #[T_, T_, T_, T_, T_, F_, F_, F_, F_, F_, F_, F_, F_, F_, F_, F_, F_] rfl rfl (any_of HT_.out (by kernel_rfl)) (fun _ _ _ h => h) (Or.inl ⟨by rfl, ?_⟩) ?_ ?_
  rotate_left
  ·intro w'
   go_simp
   with_reducible rfl
  rotate_left
  ·simp only [Act.put, la_, lz_, ls_, i64_w, i32_w]
   rfl
  refine pure_ (i := 5) (N := some 28) (v := ?_) (a' := ?_) #[T_, T_, T_, T_, T_, T_, F_, F_, F_, F_, F_, F_, F_, F_, F_, F_, F_] rfl rfl (any_of HT_.out (by kernel_rfl)) (fun _ _ _ h => h) (Or.inl ⟨by rfl, ?_⟩) ?_ ?_
  rotate_left
  ·intro w'
   go_simp
   with_reducible rfl
  rotate_left
  ·simp only [Act.put, la_, lz_, ls_, i64_w, i32_w]
   rfl
  refine pure_ (i := 6) (N := some 29) (v := ?_) (a' := ?_) #[T_, T_, T_, T_, T_, T_, T_, F_, F_, F_, F_, F_, F_, F_, F_, F_, F_] rfl rfl (any_of HT_.out (by kernel_rfl)) (fun _ _ _ h => h) (Or.inl ⟨by rfl, ?_⟩) ?_ ?_
  rotate_left
  ·intro w'
   go_simp
   with_reducible rfl
  rotate_left
  ·simp only [Act.put, la_, lz_, ls_, i64_w, i32_w]
   rfl
  refine pure_ (i := 7) (N := some 30) (v := ?_) (a' := ?_) #[T_, T_, T_, T_, T_, T_, T_, T_, F_, F_, F_, F_, F_, F_, F_, F_, F_] rfl rfl (any_of HT_.out (by kernel_rfl)) (fun _ _ _ h => h) (Or.inl ⟨by rfl, ?_⟩) ?_ ?_
  rotate_left
  ·intro w'
   go_simp
   with_reducible rfl
  rotate_left
  ·simp only [Act.put, la_, lz_, ls_, i64_w, i32_w]
   rfl
  refine pure_ (i := 8) (N := some 31) (v := ?_) (a' := ?_) #[T_, T_, T_, T_, T_, T_, T_, T_, T_, F_, F_, F_, F_, F_, F_, F_, F_] rfl rfl (any_of HT_.out (by kernel_rfl)) (fun _ _ _ h => h) (Or.inl ⟨by rfl, ?_⟩) ?_ ?_
  rotate_left
  ·intro w'
   go_simp
   with_reducible rfl
  rotate_left
  ·simp only [Act.put, la_, lz_, ls_, i64_w, i32_w]
   rfl
  refine pure_ (i := 10) (N := some 33) (v := ?_) (a' := ?_) #[T_, T_, T_, T_, T_, T_, T_, T_, T_, F_, T_, F_, F_, F_, F_, F_, F_] rfl rfl (any_of HT_.out (by kernel_rfl)) (fun _ _ _ h => h) (Or.inl ⟨by rfl, ?_⟩) ?_ ?_
  rotate_left
  ·intro w'
   go_simp
   with_reducible rfl
  rotate_left
  ·simp only [Act.put, la_, lz_, ls_, i64_w, i32_w]
   rfl
  refine join_ (σ := Nat) 1 #[T_, T_, T_, T_, T_, T_, T_, T_, T_, T_, T_, T_, T_, T_, T_, T_, F_] (fun s_ => [(32, .int .i64 t141), (34, .int .i64 t143), (7, .pointer (some ⟨s_, 0, none⟩)), (35, .int .i64 (wrap64 (t143 * 6))), (36, .int .i64 (wrap64 (4 + (wrap64 (t143 * 6))))), (37, .agg #[.int .i64 (wrap64 ((rd y135 t138) - (Int.tmod (rd y135 t138) (ji13)))), .int .i64 (rd y127 t130), .int .i64 t141, .int .i64 (wrap64 (4 + (wrap64 (t143 * 6))))])]) (fun s_ w' => (Kd.R (Kd.int .i64) 3 w' w.heap.size (fun k_ => some k_ ≠ (.slice (some ad2121) y135.length co280137 : Value).ownBlock) (.slice (some ad2001) y127.length co250129) y127) ∧ (Kd.R (Kd.int .i64) 3 w' w.heap.size (fun k_ => some k_ ≠ (.slice (some ad2001) y127.length co250129 : Value).ownBlock) (.slice (some ad2121) y135.length co280137) y135) ∧ (w'.heap[gb1880]? = some (.cells #[.int .i64 0, .int .i64 0, .int .i64 0, .int .i64 0] 29 (0, 0))) ∧ (w'.heap[s_]? = some (.cells #[.int .i64 0, .int .i64 0, .int .i64 0, .int .i64 0] 29 (0, 0))) ∧ (w.heap.size ≤ s_) ∧ (w0.heap.size ≤ s_) ∧ (g ≠ s_) ∧ (s_ ≠ g) ∧ (gb1880 ≠ s_) ∧ (s_ ≠ gb1880) ∧ (IsS107 w0 w' g s0_0 t144) ∧ (KeepBut w w' g none) ∧ (Below w0.heap.size w0 w')) ?_ ?_
  rotate_left
  ·intro hCont
   refine two_ (i := 9) (j := 15) (Ni := some 32) (Nj := some 7) #[T_, T_, T_, T_, T_, T_, T_, T_, T_, T_, T_, F_, F_, F_, F_, F_, F_] #[T_, T_, T_, T_, T_, T_, T_, T_, T_, F_, T_, F_, F_, F_, F_, T_, F_] rfl rfl rfl rfl (two_of HT_.out (by kernel_rfl)) (by decide) (by decide) (fun K hK => ?_) (fun K hK => ?_)
   ·skip
    refine goes_ Try.func46 (by kernel_rfl) rfl #[.pointer (some ⟨g, 0, none⟩), .int .i64 3] (by rfl) rfl rfl (by (try simp only [lm_, lo_, ln_]); try rfl) ?_
    with_reducible refine (spec_l20Rd_pick.calls k g s0_0 t139 3 t141 t142 w0 _ ?side1 ?side2 A15.out).mono ?_
    (case side1 => repeat (first | (with_reducible first | exact HI0.out | apply IsS107.alloc | apply IsS107.drewN | apply IsS107.drew | apply IsS107.set_1 | refine IsS107.far ?_ NB0_124.out _) | exact HI0.out))
    (case side2 => repeat (first | (with_reducible first | exact HB.out | apply na_ | apply nn_ | apply nw_ | refine bs_ ?_ (IsS107.ge HI0.out) | refine bs_ ?_ GE124.out) | exact HB.out))
    rintro e w5080 ⟨rfl, hi, hb, hk⟩
    refine ⟨_, rfl, ?_⟩
    have n0_ := mk_ (KeepBut.blk hk (g' := gb1880) (o := .cells #[.int .i64 0, .int .i64 0, .int .i64 0, .int .i64 0] 29 (0, 0)) (u_ BK124.out) NB124_0.out (by simp))
    have n1_ := mk_ (Kd.R_mono (Kd.R_keep (IsS107.apart (show IsS107 w0 _ g s0_0 t139 from by repeat (first | (with_reducible first | exact HI0.out | apply IsS107.alloc | apply IsS107.drewN | apply IsS107.drew | apply IsS107.set_1 | refine IsS107.far ?_ NB0_124.out _) | exact HI0.out)) (Kd.ur_ HO129.out) (by decide)) hk (fun _ h => h.2)) (fun _ h => h.1))
    have n2_ := mk_ (Kd.R_mono (Kd.R_keep (IsS107.apart (show IsS107 w0 _ g s0_0 t139 from by repeat (first | (with_reducible first | exact HI0.out | apply IsS107.alloc | apply IsS107.drewN | apply IsS107.drew | apply IsS107.set_1 | refine IsS107.far ?_ NB0_124.out _) | exact HI0.out)) (Kd.ur_ HO137.out) (by decide)) hk (fun _ h => h.2)) (fun _ h => h.1))
    have n3_ := mk_ (KeepBut.trans (by repeat (first | (with_reducible first | exact HK.out | apply KeepBut.set_ | apply keep_drewN | apply keep_drew | apply keep_alloc | refine keep_far ?_ GW124.out _) | exact HK.out)) hk (.inl rfl))
    have n4_ := mk_ (hb)
    have n5_ := mk_ (hi)
    clear BK124
    clear HO129
    clear HO137
    clear HK
    clear HB
    clear HI0
    have BK124 := n0_
    have HO129 := n1_
    have HO137 := n2_
    have HK := n3_
    have HB := n4_
    have HI0 := n5_
    clear n0_ n1_ n2_ n3_ n4_ n5_
    (try clear hb)
    (try clear hb2)
    (try clear hk)
    (try clear hi)
    refine hK.out _ _ trivial (fun hHeld => ?_)
    clear hK K
    refine norm_ (a' := ?_) ?_ ?_
    rotate_left
    ·show Act.put _ (some 32) _ = _
     simp only [Act.put, la_, lz_, ls_, i64_w, i32_w]
     rfl
    refine two_ (i := 11) (j := 15) (Ni := some 34) (Nj := some 7) #[T_, T_, T_, T_, T_, T_, T_, T_, T_, T_, T_, T_, F_, F_, F_, F_, F_] #[T_, T_, T_, T_, T_, T_, T_, T_, T_, T_, T_, F_, F_, F_, F_, T_, F_] rfl rfl rfl rfl (two_of HT_.out (by kernel_rfl)) (by decide) (by decide) (fun K hK => ?_) (fun K hK => ?_)
    ·skip
     refine goes_ Try.func46 (by kernel_rfl) rfl #[.pointer (some ⟨g, 0, none⟩), .int .i64 3] (by rfl) rfl rfl (by (try simp only [lm_, lo_, ln_]); try rfl) ?_
     with_reducible refine (spec_l20Rd_pick.calls k g s0_0 t142 3 t143 t144 w0 _ ?side1 ?side2 A16.out).mono ?_
     (case side1 => repeat (first | (with_reducible first | exact HI0.out | apply IsS107.alloc | apply IsS107.drewN | apply IsS107.drew | apply IsS107.set_1 | refine IsS107.far ?_ NB0_124.out _) | exact HI0.out))
     (case side2 => repeat (first | (with_reducible first | exact HB.out | apply na_ | apply nn_ | apply nw_ | refine bs_ ?_ (IsS107.ge HI0.out) | refine bs_ ?_ GE124.out) | exact HB.out))
     rintro e w5081 ⟨rfl, hi, hb, hk⟩
     refine ⟨_, rfl, ?_⟩
     have n0_ := mk_ (KeepBut.blk hk (g' := gb1880) (o := .cells #[.int .i64 0, .int .i64 0, .int .i64 0, .int .i64 0] 29 (0, 0)) (u_ BK124.out) NB124_0.out (by simp))
     have n1_ := mk_ (Kd.R_mono (Kd.R_keep (IsS107.apart (show IsS107 w0 _ g s0_0 t142 from by repeat (first | (with_reducible first | exact HI0.out | apply IsS107.alloc | apply IsS107.drewN | apply IsS107.drew | apply IsS107.set_1 | refine IsS107.far ?_ NB0_124.out _) | exact HI0.out)) (Kd.ur_ HO129.out) (by decide)) hk (fun _ h => h.2)) (fun _ h => h.1))
     have n2_ := mk_ (Kd.R_mono (Kd.R_keep (IsS107.apart (show IsS107 w0 _ g s0_0 t142 from by repeat (first | (with_reducible first | exact HI0.out | apply IsS107.alloc | apply IsS107.drewN | apply IsS107.drew | apply IsS107.set_1 | refine IsS107.far ?_ NB0_124.out _) | exact HI0.out)) (Kd.ur_ HO137.out) (by decide)) hk (fun _ h => h.2)) (fun _ h => h.1))
     have n3_ := mk_ (KeepBut.trans (by repeat (first | (with_reducible first | exact HK.out | apply KeepBut.set_ | apply keep_drewN | apply keep_drew | apply keep_alloc | refine keep_far ?_ GW124.out _) | exact HK.out)) hk (.inl rfl))
     have n4_ := mk_ (hb)
     have n5_ := mk_ (hi)
     clear BK124
     clear HO129
     clear HO137
     clear HK
     clear HB
     clear HI0
     have BK124 := n0_
     have HO129 := n1_
     have HO137 := n2_
     have HK := n3_
     have HB := n4_
     have HI0 := n5_
     clear n0_ n1_ n2_ n3_ n4_ n5_
     (try clear hb)
     (try clear hb2)
     (try clear hk)
     (try clear hi)
     refine hK.out _ _ trivial (fun hHeld => ?_)
     clear hK K
     refine norm_ (a' := ?_) ?_ ?_
     rotate_left
     ·show Act.put _ (some 34) _ = _
      simp only [Act.put, la_, lz_, ls_, i64_w, i32_w]
      rfl
     refine pure_ (i := 12) (N := some 35) (v := ?_) (a' := ?_) #[T_, T_, T_, T_, T_, T_, T_, T_, T_, T_, T_, T_, T_, F_, F_, F_, F_] rfl rfl (any_of HT_.out (by kernel_rfl)) (fun _ _ _ h => h) (Or.inl ⟨by rfl, ?_⟩) ?_ ?_
     rotate_left
     ·intro w'
      go_simp
      with_reducible rfl
     rotate_left
     ·simp only [Act.put, la_, lz_, ls_, i64_w, i32_w]
      rfl
     refine pure_ (i := 13) (N := some 36) (v := ?_) (a' := ?_) #[T_, T_, T_, T_, T_, T_, T_, T_, T_, T_, T_, T_, T_, T_, F_, F_, F_] rfl rfl (any_of HT_.out (by kernel_rfl)) (fun _ _ _ h => h) (Or.inl ⟨by rfl, ?_⟩) ?_ ?_
     rotate_left
     ·intro w'
      go_simp
      with_reducible rfl
     rotate_left
     ·simp only [Act.put, la_, lz_, ls_, i64_w, i32_w]
      rfl
     refine pure_ (i := 14) (N := some 37) (v := ?_) (a' := ?_) #[T_, T_, T_, T_, T_, T_, T_, T_, T_, T_, T_, T_, T_, T_, T_, F_, F_] rfl rfl (any_of HT_.out (by kernel_rfl)) (fun _ _ _ h => h) (Or.inl ⟨by rfl, ?_⟩) ?_ ?_
     rotate_left
     ·intro w'
      go_simp
      with_reducible rfl
     rotate_left
     ·simp only [Act.put, la_, lz_, ls_, i64_w, i32_w]
      rfl
     refine one_ (i := 15) (N := some 7) #[T_, T_, T_, T_, T_, T_, T_, T_, T_, T_, T_, T_, T_, T_, T_, T_, F_] rfl rfl (one_of HT_.out (by kernel_rfl)) (by decide) (fun K hK => ?_)
     refine box_step ?hg (N := 7) ?hd (cs := #[.int .i64 0, .int .i64 0, .int .i64 0, .int .i64 0]) (t := 29) ?hr ?_; (case hd => rfl); (case hg => rfl); (case hr => first | (go_simp; done) | (go_simp; rfl))
     intro gb5082 hg w5083 hbox hb
     have n0_ := mk_ (Kd.R_below (Kd.ur_ HO129.out) hb)
     have n1_ := mk_ (Kd.R_below (Kd.ur_ HO137.out) hb)
     have n2_ := mk_ (IsS107.below (by repeat (first | (with_reducible first | exact HI0.out | apply IsS107.alloc | apply IsS107.drewN | apply IsS107.drew | apply IsS107.set_1 | refine IsS107.far ?_ NB0_124.out _) | exact HI0.out)) hb)
     have n3_ := mk_ (blk_below (u_ BK124.out) hb)
     have n4_ := mk_ (KeepBut.trans (by repeat (first | (with_reducible first | exact HK.out | apply KeepBut.set_ | apply keep_drewN | apply keep_drew | apply keep_alloc | refine keep_far ?_ GW124.out _) | exact HK.out)) (KeepBut.of_below hb g none) (.inl rfl))
     have n5_ := mk_ (below_step (by repeat (first | (with_reducible first | exact HB.out | apply na_ | apply nn_ | apply nw_ | refine bs_ ?_ (IsS107.ge HI0.out) | refine bs_ ?_ GE124.out) | exact HB.out)) hb)
     have n6_ := mk_ (hbox)
     have n7_ := mk_ ((by rw [hg]; exact (keep_size (w := w) (g := g) (row := none) (by repeat (first | (with_reducible first | exact HK.out | apply KeepBut.set_ | apply keep_drewN | apply keep_drew | apply keep_alloc | refine keep_far ?_ GW124.out _) | exact HK.out))) : w.heap.size ≤ gb5082))
     have n8_ := mk_ ((Nat.le_trans HW0.out (by rw [hg]; exact (keep_size (w := w) (g := g) (row := none) (by repeat (first | (with_reducible first | exact HK.out | apply KeepBut.set_ | apply keep_drewN | apply keep_drew | apply keep_alloc | refine keep_far ?_ GW124.out _) | exact HK.out))) : w.heap.size ≤ gb5082) : w0.heap.size ≤ gb5082))
     have n9_ := mk_ ((by rw [hg]; exact Nat.ne_of_lt (blk_lt (u_ BK124.out)) : gb1880 ≠ gb5082))
     have n10_ := mk_ ((by rw [hg]; exact Nat.ne_of_gt (blk_lt (u_ BK124.out)) : gb5082 ≠ gb1880))
     have n11_ := mk_ ((by rw [hg]; exact Nat.ne_of_lt (IsS107.lt (show IsS107 w0 _ g s0_0 t144 from by repeat (first | (with_reducible first | exact HI0.out | apply IsS107.alloc | apply IsS107.drewN | apply IsS107.drew | apply IsS107.set_1 | refine IsS107.far ?_ NB0_124.out _) | exact HI0.out))) : g ≠ gb5082))
     have n12_ := mk_ ((by rw [hg]; exact Nat.ne_of_gt (IsS107.lt (show IsS107 w0 _ g s0_0 t144 from by repeat (first | (with_reducible first | exact HI0.out | apply IsS107.alloc | apply IsS107.drewN | apply IsS107.drew | apply IsS107.set_1 | refine IsS107.far ?_ NB0_124.out _) | exact HI0.out))) : gb5082 ≠ g))
     clear HO129
     clear HO137
     clear HI0
     clear BK124
     clear HK
     clear HB
     have HO129 := n0_
     have HO137 := n1_
     have HI0 := n2_
     have BK124 := n3_
     have HK := n4_
     have HB := n5_
     have BK145 := n6_
     have GW145 := n7_
     have GE145 := ge_ n8_.out
     have NB124_145 := nq_ n9_.out
     have NB145_124 := nq_ n10_.out
     have NB0_145 := nq_ n11_.out
     have NB145_0 := nq_ n12_.out
     clear n0_ n1_ n2_ n3_ n4_ n5_ n6_ n7_ n8_ n9_ n10_ n11_ n12_
     clear hb hbox hg
     refine hK.out _ _ trivial (fun hHeld => ?_)
     clear hK K
     refine norm_ (a' := ?_) ?_ ?_
     rotate_left
     ·show Act.put _ (some 7) _ = _
      simp only [Act.put, la_, lz_, ls_, i64_w, i32_w]
      rfl
     exact norm_ (by simp only [putAll, Act.put, la_, lz_, ls_]) (hCont (gb5082) _ ⟨(by (with_reducible repeat (first | apply Kd.R_alloc | apply Kd.R_drewN | apply Kd.R_drew)); exact Kd.R_mono HO129.out (fun _ hk => hk.2)), (by (with_reducible repeat (first | apply Kd.R_alloc | apply Kd.R_drewN | apply Kd.R_drew)); exact Kd.R_mono HO137.out (fun _ hk => hk.2)), (u_ BK124.out), (u_ BK145.out), GW145.out, GE145.out, NB0_145.out, NB145_0.out, NB124_145.out, NB145_124.out, (by repeat (first | (with_reducible first | exact HI0.out | apply IsS107.alloc | apply IsS107.drewN | apply IsS107.drew | apply IsS107.set_1 | refine IsS107.far ?_ NB0_124.out _ | refine IsS107.far ?_ NB0_145.out _) | exact HI0.out)), (by repeat (first | (with_reducible first | exact HK.out | apply KeepBut.set_ | apply keep_drewN | apply keep_drew | apply keep_alloc | refine keep_far ?_ GW124.out _ | refine keep_far ?_ GW145.out _) | exact HK.out)), (by repeat (first | (with_reducible first | exact HB.out | apply na_ | apply nn_ | apply nw_ | refine bs_ ?_ (IsS107.ge HI0.out) | refine bs_ ?_ GE124.out | refine bs_ ?_ GE145.out) | exact HB.out))⟩)
    skip
    refine box_step ?hg (N := 7) ?hd (cs := #[.int .i64 0, .int .i64 0, .int .i64 0, .int .i64 0]) (t := 29) ?hr ?_; (case hd => rfl); (case hg => rfl); (case hr => first | (go_simp; done) | (go_simp; rfl))
    intro gb5082 hg w5081 hbox hb
    have n0_ := mk_ (Kd.R_below (Kd.ur_ HO129.out) hb)
    have n1_ := mk_ (Kd.R_below (Kd.ur_ HO137.out) hb)
    have n2_ := mk_ (IsS107.below (by repeat (first | (with_reducible first | exact HI0.out | apply IsS107.alloc | apply IsS107.drewN | apply IsS107.drew | apply IsS107.set_1 | refine IsS107.far ?_ NB0_124.out _) | exact HI0.out)) hb)
    have n3_ := mk_ (blk_below (u_ BK124.out) hb)
    have n4_ := mk_ (KeepBut.trans (by repeat (first | (with_reducible first | exact HK.out | apply KeepBut.set_ | apply keep_drewN | apply keep_drew | apply keep_alloc | refine keep_far ?_ GW124.out _) | exact HK.out)) (KeepBut.of_below hb g none) (.inl rfl))
    have n5_ := mk_ (below_step (by repeat (first | (with_reducible first | exact HB.out | apply na_ | apply nn_ | apply nw_ | refine bs_ ?_ (IsS107.ge HI0.out) | refine bs_ ?_ GE124.out) | exact HB.out)) hb)
    have n6_ := mk_ (hbox)
    have n7_ := mk_ ((by rw [hg]; exact (keep_size (w := w) (g := g) (row := none) (by repeat (first | (with_reducible first | exact HK.out | apply KeepBut.set_ | apply keep_drewN | apply keep_drew | apply keep_alloc | refine keep_far ?_ GW124.out _) | exact HK.out))) : w.heap.size ≤ gb5082))
    have n8_ := mk_ ((Nat.le_trans HW0.out (by rw [hg]; exact (keep_size (w := w) (g := g) (row := none) (by repeat (first | (with_reducible first | exact HK.out | apply KeepBut.set_ | apply keep_drewN | apply keep_drew | apply keep_alloc | refine keep_far ?_ GW124.out _) | exact HK.out))) : w.heap.size ≤ gb5082) : w0.heap.size ≤ gb5082))
    have n9_ := mk_ ((by rw [hg]; exact Nat.ne_of_lt (blk_lt (u_ BK124.out)) : gb1880 ≠ gb5082))
    have n10_ := mk_ ((by rw [hg]; exact Nat.ne_of_gt (blk_lt (u_ BK124.out)) : gb5082 ≠ gb1880))
    have n11_ := mk_ ((by rw [hg]; exact Nat.ne_of_lt (IsS107.lt (show IsS107 w0 _ g s0_0 t142 from by repeat (first | (with_reducible first | exact HI0.out | apply IsS107.alloc | apply IsS107.drewN | apply IsS107.drew | apply IsS107.set_1 | refine IsS107.far ?_ NB0_124.out _) | exact HI0.out))) : g ≠ gb5082))
    have n12_ := mk_ ((by rw [hg]; exact Nat.ne_of_gt (IsS107.lt (show IsS107 w0 _ g s0_0 t142 from by repeat (first | (with_reducible first | exact HI0.out | apply IsS107.alloc | apply IsS107.drewN | apply IsS107.drew | apply IsS107.set_1 | refine IsS107.far ?_ NB0_124.out _) | exact HI0.out))) : gb5082 ≠ g))
    clear HO129
    clear HO137
    clear HI0
    clear BK124
    clear HK
    clear HB
    have HO129 := n0_
    have HO137 := n1_
    have HI0 := n2_
    have BK124 := n3_
    have HK := n4_
    have HB := n5_
    have BK145 := n6_
    have GW145 := n7_
    have GE145 := ge_ n8_.out
    have NB124_145 := nq_ n9_.out
    have NB145_124 := nq_ n10_.out
    have NB0_145 := nq_ n11_.out
    have NB145_0 := nq_ n12_.out
    clear n0_ n1_ n2_ n3_ n4_ n5_ n6_ n7_ n8_ n9_ n10_ n11_ n12_
    clear hb hbox hg
    refine hK.out _ _ trivial (fun hHeld => ?_)
    clear hK K
    refine norm_ (a' := ?_) ?_ ?_
    rotate_left
    ·show Act.put _ (some 7) _ = _
     simp only [Act.put, la_, lz_, ls_, i64_w, i32_w]
     rfl
    refine one_ (i := 11) (N := some 34) #[T_, T_, T_, T_, T_, T_, T_, T_, T_, T_, T_, T_, F_, F_, F_, T_, F_] rfl rfl (one_of HT_.out (by kernel_rfl)) (by decide) (fun K hK => ?_)
    refine goes_ Try.func46 (by kernel_rfl) rfl #[.pointer (some ⟨g, 0, none⟩), .int .i64 3] (by rfl) rfl rfl (by (try simp only [lm_, lo_, ln_]); try rfl) ?_
    with_reducible refine (spec_l20Rd_pick.calls k g s0_0 t142 3 t143 t144 w0 _ ?side1 ?side2 A16.out).mono ?_
    (case side1 => repeat (first | (with_reducible first | exact HI0.out | apply IsS107.alloc | apply IsS107.drewN | apply IsS107.drew | apply IsS107.set_1 | refine IsS107.far ?_ NB0_124.out _ | refine IsS107.far ?_ NB0_145.out _) | exact HI0.out))
    (case side2 => repeat (first | (with_reducible first | exact HB.out | apply na_ | apply nn_ | apply nw_ | refine bs_ ?_ (IsS107.ge HI0.out) | refine bs_ ?_ GE124.out | refine bs_ ?_ GE145.out) | exact HB.out))
    rintro e w5083 ⟨rfl, hi, hb, hk⟩
    refine ⟨_, rfl, ?_⟩
    have n0_ := mk_ (KeepBut.blk hk (g' := gb1880) (o := .cells #[.int .i64 0, .int .i64 0, .int .i64 0, .int .i64 0] 29 (0, 0)) (u_ BK124.out) NB124_0.out (by simp))
    have n1_ := mk_ (Kd.R_mono (Kd.R_keep (IsS107.apart (show IsS107 w0 _ g s0_0 t142 from by repeat (first | (with_reducible first | exact HI0.out | apply IsS107.alloc | apply IsS107.drewN | apply IsS107.drew | apply IsS107.set_1 | refine IsS107.far ?_ NB0_124.out _ | refine IsS107.far ?_ NB0_145.out _) | exact HI0.out)) (Kd.ur_ HO129.out) (by decide)) hk (fun _ h => h.2)) (fun _ h => h.1))
    have n2_ := mk_ (Kd.R_mono (Kd.R_keep (IsS107.apart (show IsS107 w0 _ g s0_0 t142 from by repeat (first | (with_reducible first | exact HI0.out | apply IsS107.alloc | apply IsS107.drewN | apply IsS107.drew | apply IsS107.set_1 | refine IsS107.far ?_ NB0_124.out _ | refine IsS107.far ?_ NB0_145.out _) | exact HI0.out)) (Kd.ur_ HO137.out) (by decide)) hk (fun _ h => h.2)) (fun _ h => h.1))
    have n3_ := mk_ (KeepBut.blk hk (g' := gb5082) (o := .cells #[.int .i64 0, .int .i64 0, .int .i64 0, .int .i64 0] 29 (0, 0)) (u_ BK145.out) NB145_0.out (by simp))
    have n4_ := mk_ (KeepBut.trans (by repeat (first | (with_reducible first | exact HK.out | apply KeepBut.set_ | apply keep_drewN | apply keep_drew | apply keep_alloc | refine keep_far ?_ GW124.out _ | refine keep_far ?_ GW145.out _) | exact HK.out)) hk (.inl rfl))
    have n5_ := mk_ (hb)
    have n6_ := mk_ (hi)
    clear BK124
    clear HO129
    clear HO137
    clear BK145
    clear HK
    clear HB
    clear HI0
    have BK124 := n0_
    have HO129 := n1_
    have HO137 := n2_
    have BK145 := n3_
    have HK := n4_
    have HB := n5_
    have HI0 := n6_
    clear n0_ n1_ n2_ n3_ n4_ n5_ n6_
    (try clear hb)
    (try clear hb2)
    (try clear hk)
    (try clear hi)
    refine hK.out _ _ trivial (fun hHeld => ?_)
    clear hK K
    refine norm_ (a' := ?_) ?_ ?_
    rotate_left
    ·show Act.put _ (some 34) _ = _
     simp only [Act.put, la_, lz_, ls_, i64_w, i32_w]
     rfl
    refine pure_ (i := 12) (N := some 35) (v := ?_) (a' := ?_) #[T_, T_, T_, T_, T_, T_, T_, T_, T_, T_, T_, T_, T_, F_, F_, T_, F_] rfl rfl (any_of HT_.out (by kernel_rfl)) (fun _ _ _ h => h) (Or.inl ⟨by rfl, ?_⟩) ?_ ?_
    rotate_left
    ·intro w'
     go_simp
     with_reducible rfl
    rotate_left
    ·simp only [Act.put, la_, lz_, ls_, i64_w, i32_w]
     rfl
    refine pure_ (i := 13) (N := some 36) (v := ?_) (a' := ?_) #[T_, T_, T_, T_, T_, T_, T_, T_, T_, T_, T_, T_, T_, T_, F_, T_, F_] rfl rfl (any_of HT_.out (by kernel_rfl)) (fun _ _ _ h => h) (Or.inl ⟨by rfl, ?_⟩) ?_ ?_
    rotate_left
    ·intro w'
     go_simp
     with_reducible rfl
    rotate_left
    ·simp only [Act.put, la_, lz_, ls_, i64_w, i32_w]
     rfl
    refine pure_ (i := 14) (N := some 37) (v := ?_) (a' := ?_) #[T_, T_, T_, T_, T_, T_, T_, T_, T_, T_, T_, T_, T_, T_, T_, T_, F_] rfl rfl (any_of HT_.out (by kernel_rfl)) (fun _ _ _ h => h) (Or.inl ⟨by rfl, ?_⟩) ?_ ?_
    rotate_left
    ·intro w'
     go_simp
     with_reducible rfl
    rotate_left
    ·simp only [Act.put, la_, lz_, ls_, i64_w, i32_w]
     rfl
    exact norm_ (by simp only [putAll, Act.put, la_, lz_, ls_]) (hCont (gb5082) _ ⟨(by (with_reducible repeat (first | apply Kd.R_alloc | apply Kd.R_drewN | apply Kd.R_drew)); exact Kd.R_mono HO129.out (fun _ hk => hk.2)), (by (with_reducible repeat (first | apply Kd.R_alloc | apply Kd.R_drewN | apply Kd.R_drew)); exact Kd.R_mono HO137.out (fun _ hk => hk.2)), (u_ BK124.out), (u_ BK145.out), GW145.out, GE145.out, NB0_145.out, NB145_0.out, NB124_145.out, NB145_124.out, (by repeat (first | (with_reducible first | exact HI0.out | apply IsS107.alloc | apply IsS107.drewN | apply IsS107.drew | apply IsS107.set_1 | refine IsS107.far ?_ NB0_124.out _ | refine IsS107.far ?_ NB0_145.out _) | exact HI0.out)), (by repeat (first | (with_reducible first | exact HK.out | apply KeepBut.set_ | apply keep_drewN | apply keep_drew | apply keep_alloc | refine keep_far ?_ GW124.out _ | refine keep_far ?_ GW145.out _) | exact HK.out)), (by repeat (first | (with_reducible first | exact HB.out | apply na_ | apply nn_ | apply nw_ | refine bs_ ?_ (IsS107.ge HI0.out) | refine bs_ ?_ GE124.out | refine bs_ ?_ GE145.out) | exact HB.out))⟩)
   skip
   refine box_step ?hg (N := 7) ?hd (cs := #[.int .i64 0, .int .i64 0, .int .i64 0, .int .i64 0]) (t := 29) ?hr ?_; (case hd => rfl); (case hg => rfl); (case hr => first | (go_simp; done) | (go_simp; rfl))
   intro gb5082 hg w5080 hbox hb
   have n0_ := mk_ (Kd.R_below (Kd.ur_ HO129.out) hb)
   have n1_ := mk_ (Kd.R_below (Kd.ur_ HO137.out) hb)
   have n2_ := mk_ (IsS107.below (by repeat (first | (with_reducible first | exact HI0.out | apply IsS107.alloc | apply IsS107.drewN | apply IsS107.drew | apply IsS107.set_1 | refine IsS107.far ?_ NB0_124.out _) | exact HI0.out)) hb)
   have n3_ := mk_ (blk_below (u_ BK124.out) hb)
   have n4_ := mk_ (KeepBut.trans (by repeat (first | (with_reducible first | exact HK.out | apply KeepBut.set_ | apply keep_drewN | apply keep_drew | apply keep_alloc | refine keep_far ?_ GW124.out _) | exact HK.out)) (KeepBut.of_below hb g none) (.inl rfl))
   have n5_ := mk_ (below_step (by repeat (first | (with_reducible first | exact HB.out | apply na_ | apply nn_ | apply nw_ | refine bs_ ?_ (IsS107.ge HI0.out) | refine bs_ ?_ GE124.out) | exact HB.out)) hb)
   have n6_ := mk_ (hbox)
   have n7_ := mk_ ((by rw [hg]; exact (keep_size (w := w) (g := g) (row := none) (by repeat (first | (with_reducible first | exact HK.out | apply KeepBut.set_ | apply keep_drewN | apply keep_drew | apply keep_alloc | refine keep_far ?_ GW124.out _) | exact HK.out))) : w.heap.size ≤ gb5082))
   have n8_ := mk_ ((Nat.le_trans HW0.out (by rw [hg]; exact (keep_size (w := w) (g := g) (row := none) (by repeat (first | (with_reducible first | exact HK.out | apply KeepBut.set_ | apply keep_drewN | apply keep_drew | apply keep_alloc | refine keep_far ?_ GW124.out _) | exact HK.out))) : w.heap.size ≤ gb5082) : w0.heap.size ≤ gb5082))
   have n9_ := mk_ ((by rw [hg]; exact Nat.ne_of_lt (blk_lt (u_ BK124.out)) : gb1880 ≠ gb5082))
   have n10_ := mk_ ((by rw [hg]; exact Nat.ne_of_gt (blk_lt (u_ BK124.out)) : gb5082 ≠ gb1880))
   have n11_ := mk_ ((by rw [hg]; exact Nat.ne_of_lt (IsS107.lt (show IsS107 w0 _ g s0_0 t139 from by repeat (first | (with_reducible first | exact HI0.out | apply IsS107.alloc | apply IsS107.drewN | apply IsS107.drew | apply IsS107.set_1 | refine IsS107.far ?_ NB0_124.out _) | exact HI0.out))) : g ≠ gb5082))
   have n12_ := mk_ ((by rw [hg]; exact Nat.ne_of_gt (IsS107.lt (show IsS107 w0 _ g s0_0 t139 from by repeat (first | (with_reducible first | exact HI0.out | apply IsS107.alloc | apply IsS107.drewN | apply IsS107.drew | apply IsS107.set_1 | refine IsS107.far ?_ NB0_124.out _) | exact HI0.out))) : gb5082 ≠ g))
   clear HO129
   clear HO137
   clear HI0
   clear BK124
   clear HK
   clear HB
   have HO129 := n0_
   have HO137 := n1_
   have HI0 := n2_
   have BK124 := n3_
   have HK := n4_
   have HB := n5_
   have BK145 := n6_
   have GW145 := n7_
   have GE145 := ge_ n8_.out
   have NB124_145 := nq_ n9_.out
   have NB145_124 := nq_ n10_.out
   have NB0_145 := nq_ n11_.out
   have NB145_0 := nq_ n12_.out
   clear n0_ n1_ n2_ n3_ n4_ n5_ n6_ n7_ n8_ n9_ n10_ n11_ n12_
   clear hb hbox hg
   refine hK.out _ _ trivial (fun hHeld => ?_)
   clear hK K
   refine norm_ (a' := ?_) ?_ ?_
   rotate_left
   ·show Act.put _ (some 7) _ = _
    simp only [Act.put, la_, lz_, ls_, i64_w, i32_w]
    rfl
   refine one_ (i := 9) (N := some 32) #[T_, T_, T_, T_, T_, T_, T_, T_, T_, T_, T_, F_, F_, F_, F_, T_, F_] rfl rfl (one_of HT_.out (by kernel_rfl)) (by decide) (fun K hK => ?_)
   refine goes_ Try.func46 (by kernel_rfl) rfl #[.pointer (some ⟨g, 0, none⟩), .int .i64 3] (by rfl) rfl rfl (by (try simp only [lm_, lo_, ln_]); try rfl) ?_
   with_reducible refine (spec_l20Rd_pick.calls k g s0_0 t139 3 t141 t142 w0 _ ?side1 ?side2 A15.out).mono ?_
   (case side1 => repeat (first | (with_reducible first | exact HI0.out | apply IsS107.alloc | apply IsS107.drewN | apply IsS107.drew | apply IsS107.set_1 | refine IsS107.far ?_ NB0_124.out _ | refine IsS107.far ?_ NB0_145.out _) | exact HI0.out))
   (case side2 => repeat (first | (with_reducible first | exact HB.out | apply na_ | apply nn_ | apply nw_ | refine bs_ ?_ (IsS107.ge HI0.out) | refine bs_ ?_ GE124.out | refine bs_ ?_ GE145.out) | exact HB.out))
   rintro e w5081 ⟨rfl, hi, hb, hk⟩
   refine ⟨_, rfl, ?_⟩
   have n0_ := mk_ (KeepBut.blk hk (g' := gb1880) (o := .cells #[.int .i64 0, .int .i64 0, .int .i64 0, .int .i64 0] 29 (0, 0)) (u_ BK124.out) NB124_0.out (by simp))
   have n1_ := mk_ (Kd.R_mono (Kd.R_keep (IsS107.apart (show IsS107 w0 _ g s0_0 t139 from by repeat (first | (with_reducible first | exact HI0.out | apply IsS107.alloc | apply IsS107.drewN | apply IsS107.drew | apply IsS107.set_1 | refine IsS107.far ?_ NB0_124.out _ | refine IsS107.far ?_ NB0_145.out _) | exact HI0.out)) (Kd.ur_ HO129.out) (by decide)) hk (fun _ h => h.2)) (fun _ h => h.1))
   have n2_ := mk_ (Kd.R_mono (Kd.R_keep (IsS107.apart (show IsS107 w0 _ g s0_0 t139 from by repeat (first | (with_reducible first | exact HI0.out | apply IsS107.alloc | apply IsS107.drewN | apply IsS107.drew | apply IsS107.set_1 | refine IsS107.far ?_ NB0_124.out _ | refine IsS107.far ?_ NB0_145.out _) | exact HI0.out)) (Kd.ur_ HO137.out) (by decide)) hk (fun _ h => h.2)) (fun _ h => h.1))
   have n3_ := mk_ (KeepBut.blk hk (g' := gb5082) (o := .cells #[.int .i64 0, .int .i64 0, .int .i64 0, .int .i64 0] 29 (0, 0)) (u_ BK145.out) NB145_0.out (by simp))
   have n4_ := mk_ (KeepBut.trans (by repeat (first | (with_reducible first | exact HK.out | apply KeepBut.set_ | apply keep_drewN | apply keep_drew | apply keep_alloc | refine keep_far ?_ GW124.out _ | refine keep_far ?_ GW145.out _) | exact HK.out)) hk (.inl rfl))
   have n5_ := mk_ (hb)
   have n6_ := mk_ (hi)
   clear BK124
   clear HO129
   clear HO137
   clear BK145
   clear HK
   clear HB
   clear HI0
   have BK124 := n0_
   have HO129 := n1_
   have HO137 := n2_
   have BK145 := n3_
   have HK := n4_
   have HB := n5_
   have HI0 := n6_
   clear n0_ n1_ n2_ n3_ n4_ n5_ n6_
   (try clear hb)
   (try clear hb2)
   (try clear hk)
   (try clear hi)
   refine hK.out _ _ trivial (fun hHeld => ?_)
   clear hK K
   refine norm_ (a' := ?_) ?_ ?_
   rotate_left
   ·show Act.put _ (some 32) _ = _
    simp only [Act.put, la_, lz_, ls_, i64_w, i32_w]
    rfl
   refine one_ (i := 11) (N := some 34) #[T_, T_, T_, T_, T_, T_, T_, T_, T_, T_, T_, T_, F_, F_, F_, T_, F_] rfl rfl (one_of HT_.out (by kernel_rfl)) (by decide) (fun K hK => ?_)
   refine goes_ Try.func46 (by kernel_rfl) rfl #[.pointer (some ⟨g, 0, none⟩), .int .i64 3] (by rfl) rfl rfl (by (try simp only [lm_, lo_, ln_]); try rfl) ?_
   with_reducible refine (spec_l20Rd_pick.calls k g s0_0 t142 3 t143 t144 w0 _ ?side1 ?side2 A16.out).mono ?_
   (case side1 => repeat (first | (with_reducible first | exact HI0.out | apply IsS107.alloc | apply IsS107.drewN | apply IsS107.drew | apply IsS107.set_1 | refine IsS107.far ?_ NB0_124.out _ | refine IsS107.far ?_ NB0_145.out _) | exact HI0.out))
   (case side2 => repeat (first | (with_reducible first | exact HB.out | apply na_ | apply nn_ | apply nw_ | refine bs_ ?_ (IsS107.ge HI0.out) | refine bs_ ?_ GE124.out | refine bs_ ?_ GE145.out) | exact HB.out))
   rintro e w5083 ⟨rfl, hi, hb, hk⟩
   refine ⟨_, rfl, ?_⟩
   have n0_ := mk_ (KeepBut.blk hk (g' := gb1880) (o := .cells #[.int .i64 0, .int .i64 0, .int .i64 0, .int .i64 0] 29 (0, 0)) (u_ BK124.out) NB124_0.out (by simp))
   have n1_ := mk_ (Kd.R_mono (Kd.R_keep (IsS107.apart (show IsS107 w0 _ g s0_0 t142 from by repeat (first | (with_reducible first | exact HI0.out | apply IsS107.alloc | apply IsS107.drewN | apply IsS107.drew | apply IsS107.set_1 | refine IsS107.far ?_ NB0_124.out _ | refine IsS107.far ?_ NB0_145.out _) | exact HI0.out)) (Kd.ur_ HO129.out) (by decide)) hk (fun _ h => h.2)) (fun _ h => h.1))
   have n2_ := mk_ (Kd.R_mono (Kd.R_keep (IsS107.apart (show IsS107 w0 _ g s0_0 t142 from by repeat (first | (with_reducible first | exact HI0.out | apply IsS107.alloc | apply IsS107.drewN | apply IsS107.drew | apply IsS107.set_1 | refine IsS107.far ?_ NB0_124.out _ | refine IsS107.far ?_ NB0_145.out _) | exact HI0.out)) (Kd.ur_ HO137.out) (by decide)) hk (fun _ h => h.2)) (fun _ h => h.1))
   have n3_ := mk_ (KeepBut.blk hk (g' := gb5082) (o := .cells #[.int .i64 0, .int .i64 0, .int .i64 0, .int .i64 0] 29 (0, 0)) (u_ BK145.out) NB145_0.out (by simp))
   have n4_ := mk_ (KeepBut.trans (by repeat (first | (with_reducible first | exact HK.out | apply KeepBut.set_ | apply keep_drewN | apply keep_drew | apply keep_alloc | refine keep_far ?_ GW124.out _ | refine keep_far ?_ GW145.out _) | exact HK.out)) hk (.inl rfl))
   have n5_ := mk_ (hb)
   have n6_ := mk_ (hi)
   clear BK124
   clear HO129
   clear HO137
   clear BK145
   clear HK
   clear HB
   clear HI0
   have BK124 := n0_
   have HO129 := n1_
   have HO137 := n2_
   have BK145 := n3_
   have HK := n4_
   have HB := n5_
   have HI0 := n6_
   clear n0_ n1_ n2_ n3_ n4_ n5_ n6_
   (try clear hb)
   (try clear hb2)
   (try clear hk)
   (try clear hi)
   refine hK.out _ _ trivial (fun hHeld => ?_)
   clear hK K
   refine norm_ (a' := ?_) ?_ ?_
   rotate_left
   ·show Act.put _ (some 34) _ = _
    simp only [Act.put, la_, lz_, ls_, i64_w, i32_w]
    rfl
   refine pure_ (i := 12) (N := some 35) (v := ?_) (a' := ?_) #[T_, T_, T_, T_, T_, T_, T_, T_, T_, T_, T_, T_, T_, F_, F_, T_, F_] rfl rfl (any_of HT_.out (by kernel_rfl)) (fun _ _ _ h => h) (Or.inl ⟨by rfl, ?_⟩) ?_ ?_
   rotate_left
   ·intro w'
    go_simp
    with_reducible rfl
   rotate_left
   ·simp only [Act.put, la_, lz_, ls_, i64_w, i32_w]
    rfl
   refine pure_ (i := 13) (N := some 36) (v := ?_) (a' := ?_) #[T_, T_, T_, T_, T_, T_, T_, T_, T_, T_, T_, T_, T_, T_, F_, T_, F_] rfl rfl (any_of HT_.out (by kernel_rfl)) (fun _ _ _ h => h) (Or.inl ⟨by rfl, ?_⟩) ?_ ?_
   rotate_left
   ·intro w'
    go_simp
    with_reducible rfl
   rotate_left
   ·simp only [Act.put, la_, lz_, ls_, i64_w, i32_w]
    rfl
   refine pure_ (i := 14) (N := some 37) (v := ?_) (a' := ?_) #[T_, T_, T_, T_, T_, T_, T_, T_, T_, T_, T_, T_, T_, T_, T_, T_, F_] rfl rfl (any_of HT_.out (by kernel_rfl)) (fun _ _ _ h => h) (Or.inl ⟨by rfl, ?_⟩) ?_ ?_
   rotate_left
   ·intro w'
    go_simp
    with_reducible rfl
   rotate_left
   ·simp only [Act.put, la_, lz_, ls_, i64_w, i32_w]
    rfl
   exact norm_ (by simp only [putAll, Act.put, la_, lz_, ls_]) (hCont (gb5082) _ ⟨(by (with_reducible repeat (first | apply Kd.R_alloc | apply Kd.R_drewN | apply Kd.R_drew)); exact Kd.R_mono HO129.out (fun _ hk => hk.2)), (by (with_reducible repeat (first | apply Kd.R_alloc | apply Kd.R_drewN | apply Kd.R_drew)); exact Kd.R_mono HO137.out (fun _ hk => hk.2)), (u_ BK124.out), (u_ BK145.out), GW145.out, GE145.out, NB0_145.out, NB145_0.out, NB124_145.out, NB145_124.out, (by repeat (first | (with_reducible first | exact HI0.out | apply IsS107.alloc | apply IsS107.drewN | apply IsS107.drew | apply IsS107.set_1 | refine IsS107.far ?_ NB0_124.out _ | refine IsS107.far ?_ NB0_145.out _) | exact HI0.out)), (by repeat (first | (with_reducible first | exact HK.out | apply KeepBut.set_ | apply keep_drewN | apply keep_drew | apply keep_alloc | refine keep_far ?_ GW124.out _ | refine keep_far ?_ GW145.out _) | exact HK.out)), (by repeat (first | (with_reducible first | exact HB.out | apply na_ | apply nn_ | apply nw_ | refine bs_ ?_ (IsS107.ge HI0.out) | refine bs_ ?_ GE124.out | refine bs_ ?_ GE145.out) | exact HB.out))⟩)
  rintro gb5082 w7720 ⟨h0_, h1_, h2_, h3_, h4_, h5_, h6_, h7_, h8_, h9_, h10_, h11_, h12_⟩
  have n0_ : Aside0 (Kd.R (Kd.int .i64) 3 w7720 w.heap.size (fun k_ => some k_ ≠ (.slice (some ad2121) y135.length co280137 : Value).ownBlock) (.slice (some ad2001) y127.length co250129) y127) := ⟨h0_⟩
  have n1_ : Aside0 (Kd.R (Kd.int .i64) 3 w7720 w.heap.size (fun k_ => some k_ ≠ (.slice (some ad2001) y127.length co250129 : Value).ownBlock) (.slice (some ad2121) y135.length co280137) y135) := ⟨h1_⟩
  have n2_ : Aside0 (w7720.heap[gb1880]? = some (.cells #[.int .i64 0, .int .i64 0, .int .i64 0, .int .i64 0] 29 (0, 0))) := ⟨h2_⟩
  have n3_ : Aside0 (w7720.heap[gb5082]? = some (.cells #[.int .i64 0, .int .i64 0, .int .i64 0, .int .i64 0] 29 (0, 0))) := ⟨h3_⟩
  have n4_ : Aside0 (w.heap.size ≤ gb5082) := ⟨h4_⟩
  have n5_ : Aside0 (w0.heap.size ≤ gb5082) := ⟨h5_⟩
  have n6_ : Aside0 (g ≠ gb5082) := ⟨h6_⟩
  have n7_ : Aside0 (gb5082 ≠ g) := ⟨h7_⟩
  have n8_ : Aside0 (gb1880 ≠ gb5082) := ⟨h8_⟩
  have n9_ : Aside0 (gb5082 ≠ gb1880) := ⟨h9_⟩
  have n10_ : Aside0 (IsS107 w0 w7720 g s0_0 t144) := ⟨h10_⟩
  have n11_ : Aside0 (KeepBut w w7720 g none) := ⟨h11_⟩
  have n12_ : Aside0 (Below w0.heap.size w0 w7720) := ⟨h12_⟩
  clear HO129
  clear HO137
  clear BK124
  clear HI0
  clear HK
  clear HB
  clear h0_ h1_ h2_ h3_ h4_ h5_ h6_ h7_ h8_ h9_ h10_ h11_ h12_
  have HO129 := n0_
  have HO137 := n1_
  have BK124 := n2_
  have BK145 := n3_
  have GW145 := n4_
  have GE145 := ge_ n5_.out
  have NB0_145 := nq_ n6_.out
  have NB145_0 := nq_ n7_.out
  have NB124_145 := nq_ n8_.out
  have NB145_124 := nq_ n9_.out
  have HI0 := n10_
  have HK := n11_
  have HB := n12_
  clear n0_ n1_ n2_ n3_ n4_ n5_ n6_ n7_ n8_ n9_ n10_ n11_ n12_
  have hHeld := trivial
  refine norm_ (a' := ?_) ?_ ?_
  rotate_left
  ·simp only [putAll, Act.put, la_, lz_, ls_]
   rfl
  refine one_ (i := 16) (N := none) #[T_, T_, T_, T_, T_, T_, T_, T_, T_, T_, T_, T_, T_, T_, T_, T_, T_] rfl rfl (one_of HT_.out (by kernel_rfl)) (by decide) (fun K hK => ?_)
  have hs7920 : w7720.cell? ⟨gb5082, 0, none⟩ = some (.int .i64 0) := (blk_cell BK145.out 0).trans rfl
  have hfs7920 := blk_frozen BK145.out 0
  have hns7920_0 := NB124_145.out
  have hms7920_0 := NB145_124.out
  have hs7960 : w7720.cell? ⟨gb5082, 1, none⟩ = some (.int .i64 0) := (blk_cell BK145.out 1).trans rfl
  have hfs7960 := blk_frozen BK145.out 1
  have hns7960_0 := NB124_145.out
  have hms7960_0 := NB145_124.out
  have hs8000 : w7720.cell? ⟨gb5082, 2, none⟩ = some (.int .i64 0) := (blk_cell BK145.out 2).trans rfl
  have hfs8000 := blk_frozen BK145.out 2
  have hns8000_0 := NB124_145.out
  have hms8000_0 := NB145_124.out
  have hs8040 : w7720.cell? ⟨gb5082, 3, none⟩ = some (.int .i64 0) := (blk_cell BK145.out 3).trans rfl
  have hfs8040 := blk_frozen BK145.out 3
  have hns8040_0 := NB124_145.out
  have hms8040_0 := NB145_124.out
  refine skip_ (w1 := ?_) (by rfl) rfl ?_ ?_
  rotate_left
  ·go_simp
   rfl
  refine hK.out _ _ trivial (fun hHeld => ?_)
  clear hK K
  refine done_ (done_of HT_.out (by kernel_rfl)) ?_
  try go_wp2_with (first | ((with_reducible refine gate_callee (f := 90) rfl ?_); refine goesL_ (some 40) rfl rfl Try.func90 (by kernel_rfl) rfl #[.pointer (some ⟨g, 0, none⟩), .int .i64 a1] rfl (by (try simp only [lm_, lo_, ln_]); try rfl) ?_; (with_reducible refine (spec_l20Rd_odd.calls k g s0_0 t144 a1 true t147 w0 _ ?side1 ?side2 A17.out).mono ?_); (case side1 => repeat (first | (with_reducible first | exact HI0.out | apply IsS107.alloc | apply IsS107.drewN | apply IsS107.drew | apply IsS107.set_1 | refine IsS107.far ?_ NB0_124.out _ | refine IsS107.far ?_ NB0_145.out _) | exact HI0.out)); (case side2 => repeat (first | (with_reducible first | exact HB.out | apply na_ | apply nn_ | apply nw_ | refine bs_ ?_ (IsS107.ge HI0.out) | refine bs_ ?_ GE124.out | refine bs_ ?_ GE145.out) | exact HB.out)); rintro e w7600 ⟨rfl, hi, hb, hk⟩; refine ⟨_, rfl, ?_⟩; replace BK124 := mk_ (KeepBut.blk hk (g' := gb1880) (o := .cells #[.int .i64 0, .int .i64 0, .int .i64 0, .int .i64 0] 29 (0, 0)) (uf_ BK124.out) NB124_0.out (by simp)); replace HO129 := mk_ (Kd.R_mono (Kd.R_keep (IsS107.apart (show IsS107 w0 _ g s0_0 t144 from by repeat (first | (with_reducible first | exact HI0.out | apply IsS107.alloc | apply IsS107.drewN | apply IsS107.drew | apply IsS107.set_1 | refine IsS107.far ?_ NB0_124.out _ | refine IsS107.far ?_ NB0_145.out _) | exact HI0.out)) (by (with_reducible repeat (first | apply Kd.R_alloc | apply Kd.R_drewN | apply Kd.R_drew)); exact (Kd.R_mono (Kd.R_far (p := ⟨gb5082, 3, none⟩) (Kd.R_far (p := ⟨gb5082, 2, none⟩) (Kd.R_far (p := ⟨gb5082, 1, none⟩) (Kd.R_far (p := ⟨gb5082, 0, none⟩) (Kd.R_types HO129.out BK145.out (by decide)) (fun _ hk => hk.2) (.int .i64 (wrap64 ((rd y135 t138) - (Int.tmod (rd y135 t138) (ji13)))))) (fun _ hk => hk.2) (.int .i64 (rd y127 t130))) (fun _ hk => hk.2) (.int .i64 t141)) (fun _ hk => hk.2) (.int .i64 (wrap64 (4 + (wrap64 (t143 * 6)))))) (fun _ h_ => by first | exact h_.1 | simp only [h_, ne_eq, not_false_eq_true, and_self]))) (by decide)) hk (fun _ h => h.2)) (fun _ h => h.1)); replace HO137 := mk_ (Kd.R_mono (Kd.R_keep (IsS107.apart (show IsS107 w0 _ g s0_0 t144 from by repeat (first | (with_reducible first | exact HI0.out | apply IsS107.alloc | apply IsS107.drewN | apply IsS107.drew | apply IsS107.set_1 | refine IsS107.far ?_ NB0_124.out _ | refine IsS107.far ?_ NB0_145.out _) | exact HI0.out)) (by (with_reducible repeat (first | apply Kd.R_alloc | apply Kd.R_drewN | apply Kd.R_drew)); exact (Kd.R_mono (Kd.R_far (p := ⟨gb5082, 3, none⟩) (Kd.R_far (p := ⟨gb5082, 2, none⟩) (Kd.R_far (p := ⟨gb5082, 1, none⟩) (Kd.R_far (p := ⟨gb5082, 0, none⟩) (Kd.R_types HO137.out BK145.out (by decide)) (fun _ hk => hk.2) (.int .i64 (wrap64 ((rd y135 t138) - (Int.tmod (rd y135 t138) (ji13)))))) (fun _ hk => hk.2) (.int .i64 (rd y127 t130))) (fun _ hk => hk.2) (.int .i64 t141)) (fun _ hk => hk.2) (.int .i64 (wrap64 (4 + (wrap64 (t143 * 6)))))) (fun _ h_ => by first | exact h_.1 | simp only [h_, ne_eq, not_false_eq_true, and_self]))) (by decide)) hk (fun _ h => h.2)) (fun _ h => h.1)); replace BK145 := mk_ (KeepBut.blk hk (g' := gb5082) (o := .cells #[.int .i64 (wrap64 ((rd y135 t138) - (Int.tmod (rd y135 t138) (ji13)))), .int .i64 (rd y127 t130), .int .i64 t141, .int .i64 (wrap64 (4 + (wrap64 (t143 * 6))))] 29 (0, 0)) (by (with_reducible repeat (first | refine bn_ ?_ _ | refine bw_ ?_ | refine ba_ ?_ _)); refine blk_put (cs := #[.int .i64 (wrap64 ((rd y135 t138) - (Int.tmod (rd y135 t138) (ji13)))), .int .i64 (rd y127 t130), .int .i64 t141, .int .i64 0]) ?_ 3 _ rfl; (with_reducible repeat (first | refine bn_ ?_ _ | refine bw_ ?_ | refine ba_ ?_ _)); refine blk_put (cs := #[.int .i64 (wrap64 ((rd y135 t138) - (Int.tmod (rd y135 t138) (ji13)))), .int .i64 (rd y127 t130), .int .i64 0, .int .i64 0]) ?_ 2 _ rfl; (with_reducible repeat (first | refine bn_ ?_ _ | refine bw_ ?_ | refine ba_ ?_ _)); refine blk_put (cs := #[.int .i64 (wrap64 ((rd y135 t138) - (Int.tmod (rd y135 t138) (ji13)))), .int .i64 0, .int .i64 0, .int .i64 0]) ?_ 1 _ rfl; (with_reducible repeat (first | refine bn_ ?_ _ | refine bw_ ?_ | refine ba_ ?_ _)); refine blk_put (cs := #[.int .i64 0, .int .i64 0, .int .i64 0, .int .i64 0]) ?_ 0 _ rfl; (with_reducible repeat (first | refine bn_ ?_ _ | refine bw_ ?_ | refine ba_ ?_ _)); exact BK145.out) NB145_0.out (by simp)); replace HK := mk_ (KeepBut.trans (by repeat (first | (with_reducible first | exact HK.out | apply KeepBut.set_ | apply keep_drewN | apply keep_drew | apply keep_alloc | refine keep_far ?_ GW124.out _ | refine keep_far ?_ GW145.out _) | exact HK.out)) hk (.inl rfl)); replace HB := mk_ (hb); replace HI0 := mk_ (hi)) | ((with_reducible refine gate_callee (f := 46) rfl ?_); have hA_ := A19.out; refine goesL_ (some 42) rfl rfl Try.func46 (by kernel_rfl) rfl #[.pointer (some ⟨g, 0, none⟩), .int .i64 3] rfl (by (try simp only [lm_, lo_, ln_]); try rfl) ?_; (with_reducible refine (spec_l20Rd_pick.calls k g s0_0 t147 3 t148 t149 w0 _ ?side1 ?side2 A19.out).mono ?_); (case side1 => repeat (first | (with_reducible first | exact HI0.out | apply IsS107.alloc | apply IsS107.drewN | apply IsS107.drew | apply IsS107.set_1 | refine IsS107.far ?_ NB0_124.out _ | refine IsS107.far ?_ NB0_145.out _) | exact HI0.out)); (case side2 => repeat (first | (with_reducible first | exact HB.out | apply na_ | apply nn_ | apply nw_ | refine bs_ ?_ (IsS107.ge HI0.out) | refine bs_ ?_ GE124.out | refine bs_ ?_ GE145.out) | exact HB.out)); rintro e w8080 ⟨rfl, hi, hb, hk⟩; refine ⟨_, rfl, ?_⟩; replace BK124 := mk_ (KeepBut.blk hk (g' := gb1880) (o := .cells #[.int .i64 0, .int .i64 0, .int .i64 0, .int .i64 0] 29 (0, 0)) (u_ BK124.out) NB124_0.out (by simp)); replace HO129 := mk_ (Kd.R_mono (Kd.R_keep (IsS107.apart (show IsS107 w0 _ g s0_0 t147 from by repeat (first | (with_reducible first | exact HI0.out | apply IsS107.alloc | apply IsS107.drewN | apply IsS107.drew | apply IsS107.set_1 | refine IsS107.far ?_ NB0_124.out _ | refine IsS107.far ?_ NB0_145.out _) | exact HI0.out)) (Kd.ur_ HO129.out) (by decide)) hk (fun _ h => h.2)) (fun _ h => h.1)); replace HO137 := mk_ (Kd.R_mono (Kd.R_keep (IsS107.apart (show IsS107 w0 _ g s0_0 t147 from by repeat (first | (with_reducible first | exact HI0.out | apply IsS107.alloc | apply IsS107.drewN | apply IsS107.drew | apply IsS107.set_1 | refine IsS107.far ?_ NB0_124.out _ | refine IsS107.far ?_ NB0_145.out _) | exact HI0.out)) (Kd.ur_ HO137.out) (by decide)) hk (fun _ h => h.2)) (fun _ h => h.1)); replace BK145 := mk_ (KeepBut.blk hk (g' := gb5082) (o := .cells #[.int .i64 (wrap64 ((rd y135 t138) - (Int.tmod (rd y135 t138) (ji13)))), .int .i64 (rd y127 t130), .int .i64 t141, .int .i64 (wrap64 (4 + (wrap64 (t143 * 6))))] 29 (0, 0)) (u_ BK145.out) NB145_0.out (by simp)); replace HK := mk_ (KeepBut.trans (by repeat (first | (with_reducible first | exact HK.out | apply KeepBut.set_ | apply keep_drewN | apply keep_drew | apply keep_alloc | refine keep_far ?_ GW124.out _ | refine keep_far ?_ GW145.out _) | exact HK.out)) hk (.inl rfl)); replace HB := mk_ (hb); replace HI0 := mk_ (hi); clear hA_ A19; have hnb1770124145 := NB145_124.out; have hnc1770124145 := NB124_145.out; have hnb17700145 := NB145_0.out; have hnc17700145 := NB0_145.out; obtain ⟨_, _, _, _, _, _, _, _⟩ := cells4_ BK145.out; have hnb17700124 := NB124_0.out; have hnc17700124 := NB0_124.out; obtain ⟨_, _, _, _, _, _, _, _⟩ := cells4_ BK124.out) | ((with_reducible refine gate_callee (f := 46) rfl ?_); have hA_ := A21.out; refine goesL_ (some 50) rfl rfl Try.func46 (by kernel_rfl) rfl #[.pointer (some ⟨g, 0, none⟩), .int .i64 2] rfl (by (try simp only [lm_, lo_, ln_]); try rfl) ?_; (with_reducible refine (spec_l20Rd_pick.calls k g s0_0 t149 2 t150 t151 w0 _ ?side1 ?side2 A21.out).mono ?_); (case side1 => repeat (first | (with_reducible first | exact HI0.out | apply IsS107.alloc | apply IsS107.drewN | apply IsS107.drew | apply IsS107.set_1 | refine IsS107.far ?_ NB0_124.out _ | refine IsS107.far ?_ NB0_145.out _) | exact HI0.out)); (case side2 => repeat (first | (with_reducible first | exact HB.out | apply na_ | apply nn_ | apply nw_ | refine bs_ ?_ (IsS107.ge HI0.out) | refine bs_ ?_ GE124.out | refine bs_ ?_ GE145.out) | exact HB.out)); rintro e w8120 ⟨rfl, hi, hb, hk⟩; refine ⟨_, rfl, ?_⟩; replace BK124 := mk_ (KeepBut.blk hk (g' := gb1880) (o := .cells #[.int .i64 0, .int .i64 0, .int .i64 0, .int .i64 0] 29 (0, 0)) (u_ BK124.out) NB124_0.out (by simp)); replace HO129 := mk_ (Kd.R_mono (Kd.R_keep (IsS107.apart (show IsS107 w0 _ g s0_0 t149 from by repeat (first | (with_reducible first | exact HI0.out | apply IsS107.alloc | apply IsS107.drewN | apply IsS107.drew | apply IsS107.set_1 | refine IsS107.far ?_ NB0_124.out _ | refine IsS107.far ?_ NB0_145.out _) | exact HI0.out)) (Kd.ur_ HO129.out) (by decide)) hk (fun _ h => h.2)) (fun _ h => h.1)); replace HO137 := mk_ (Kd.R_mono (Kd.R_keep (IsS107.apart (show IsS107 w0 _ g s0_0 t149 from by repeat (first | (with_reducible first | exact HI0.out | apply IsS107.alloc | apply IsS107.drewN | apply IsS107.drew | apply IsS107.set_1 | refine IsS107.far ?_ NB0_124.out _ | refine IsS107.far ?_ NB0_145.out _) | exact HI0.out)) (Kd.ur_ HO137.out) (by decide)) hk (fun _ h => h.2)) (fun _ h => h.1)); replace BK145 := mk_ (KeepBut.blk hk (g' := gb5082) (o := .cells #[.int .i64 (wrap64 ((rd y135 t138) - (Int.tmod (rd y135 t138) (ji13)))), .int .i64 (rd y127 t130), .int .i64 t141, .int .i64 (wrap64 (4 + (wrap64 (t143 * 6))))] 29 (0, 0)) (u_ BK145.out) NB145_0.out (by simp)); replace HK := mk_ (KeepBut.trans (by repeat (first | (with_reducible first | exact HK.out | apply KeepBut.set_ | apply keep_drewN | apply keep_drew | apply keep_alloc | refine keep_far ?_ GW124.out _ | refine keep_far ?_ GW145.out _) | exact HK.out)) hk (.inl rfl)); replace HB := mk_ (hb); replace HI0 := mk_ (hi); have hnb1780124145 := NB145_124.out; have hnc1780124145 := NB124_145.out; have hnb17800145 := NB145_0.out; have hnc17800145 := NB0_145.out; obtain ⟨_, _, _, _, _, _, _, _⟩ := cells4_ BK145.out; have hnb17800124 := NB124_0.out; have hnc17800124 := NB0_124.out; obtain ⟨_, _, _, _, _, _, _, _⟩ := cells4_ BK124.out; clear hA_ A21) | ((with_reducible refine gate_callee (f := 46) rfl ?_); have hA_ := A51.out; refine goesL_ (some 57) rfl rfl Try.func46 (by kernel_rfl) rfl #[.pointer (some ⟨g, 0, none⟩), .int .i64 2] rfl (by (try simp only [lm_, lo_, ln_]); try rfl) ?_; (with_reducible refine (spec_l20Rd_pick.calls k g s0_0 t149 2 t152 t153 w0 _ ?side1 ?side2 A51.out).mono ?_); (case side1 => repeat (first | (with_reducible first | exact HI0.out | apply IsS107.alloc | apply IsS107.drewN | apply IsS107.drew | apply IsS107.set_1 | refine IsS107.far ?_ NB0_124.out _ | refine IsS107.far ?_ NB0_145.out _) | exact HI0.out)); (case side2 => repeat (first | (with_reducible first | exact HB.out | apply na_ | apply nn_ | apply nw_ | refine bs_ ?_ (IsS107.ge HI0.out) | refine bs_ ?_ GE124.out | refine bs_ ?_ GE145.out) | exact HB.out)); rintro e w8160 ⟨rfl, hi, hb, hk⟩; refine ⟨_, rfl, ?_⟩; replace BK124 := mk_ (KeepBut.blk hk (g' := gb1880) (o := .cells #[.int .i64 0, .int .i64 0, .int .i64 0, .int .i64 0] 29 (0, 0)) (u_ BK124.out) NB124_0.out (by simp)); replace HO129 := mk_ (Kd.R_mono (Kd.R_keep (IsS107.apart (show IsS107 w0 _ g s0_0 t149 from by repeat (first | (with_reducible first | exact HI0.out | apply IsS107.alloc | apply IsS107.drewN | apply IsS107.drew | apply IsS107.set_1 | refine IsS107.far ?_ NB0_124.out _ | refine IsS107.far ?_ NB0_145.out _) | exact HI0.out)) (Kd.ur_ HO129.out) (by decide)) hk (fun _ h => h.2)) (fun _ h => h.1)); replace HO137 := mk_ (Kd.R_mono (Kd.R_keep (IsS107.apart (show IsS107 w0 _ g s0_0 t149 from by repeat (first | (with_reducible first | exact HI0.out | apply IsS107.alloc | apply IsS107.drewN | apply IsS107.drew | apply IsS107.set_1 | refine IsS107.far ?_ NB0_124.out _ | refine IsS107.far ?_ NB0_145.out _) | exact HI0.out)) (Kd.ur_ HO137.out) (by decide)) hk (fun _ h => h.2)) (fun _ h => h.1)); replace BK145 := mk_ (KeepBut.blk hk (g' := gb5082) (o := .cells #[.int .i64 (wrap64 ((rd y135 t138) - (Int.tmod (rd y135 t138) (ji13)))), .int .i64 (rd y127 t130), .int .i64 t141, .int .i64 (wrap64 (4 + (wrap64 (t143 * 6))))] 29 (0, 0)) (u_ BK145.out) NB145_0.out (by simp)); replace HK := mk_ (KeepBut.trans (by repeat (first | (with_reducible first | exact HK.out | apply KeepBut.set_ | apply keep_drewN | apply keep_drew | apply keep_alloc | refine keep_far ?_ GW124.out _ | refine keep_far ?_ GW145.out _) | exact HK.out)) hk (.inl rfl)); replace HB := mk_ (hb); replace HI0 := mk_ (hi); have hnb1790124145 := NB145_124.out; have hnc1790124145 := NB124_145.out; have hnb17900145 := NB145_0.out; have hnc17900145 := NB0_145.out; obtain ⟨_, _, _, _, _, _, _, _⟩ := cells4_ BK145.out; have hnb17900124 := NB124_0.out; have hnc17900124 := NB0_124.out; obtain ⟨_, _, _, _, _, _, _, _⟩ := cells4_ BK124.out; clear hA_ A51))
 ·refine bodyPost_ret (results_cell_row rfl _ _ gb1880 29 #[.int .i64 (wrap64 ((rd y135 t138) - (Int.tmod (rd y135 t138) (ji13)))), .int .i64 (wrap64 (17 - (wrap64 (t150 * 18)))), .int .i64 t141, .int .i64 (wrap64 (4 + (wrap64 (t143 * 6))))] (0, 0) _ rfl (by (with_reducible repeat (first | refine bn_ ?_ _ | refine bw_ ?_ | refine ba_ ?_ _)); refine blk_put (cs := #[.int .i64 (wrap64 ((rd y135 t138) - (Int.tmod (rd y135 t138) (ji13)))), .int .i64 (wrap64 (17 - (wrap64 (t150 * 18)))), .int .i64 t141, .int .i64 0]) ?_ 3 _ rfl; (with_reducible repeat (first | refine bn_ ?_ _ | refine bw_ ?_ | refine ba_ ?_ _)); refine blk_put (cs := #[.int .i64 (wrap64 ((rd y135 t138) - (Int.tmod (rd y135 t138) (ji13)))), .int .i64 (wrap64 (17 - (wrap64 (t150 * 18)))), .int .i64 0, .int .i64 0]) ?_ 2 _ rfl; (with_reducible repeat (first | refine bn_ ?_ _ | refine bw_ ?_ | refine ba_ ?_ _)); refine blk_put (cs := #[.int .i64 (wrap64 ((rd y135 t138) - (Int.tmod (rd y135 t138) (ji13)))), .int .i64 0, .int .i64 0, .int .i64 0]) ?_ 1 _ rfl; (with_reducible repeat (first | refine bn_ ?_ _ | refine bw_ ?_ | refine ba_ ?_ _)); refine blk_put (cs := #[.int .i64 0, .int .i64 0, .int .i64 0, .int .i64 0]) ?_ 0 _ rfl; (with_reducible repeat (first | refine bn_ ?_ _ | refine bw_ ?_ | refine ba_ ?_ _)); refine blk_far ?_ NB124_145.out _; (with_reducible repeat (first | refine bn_ ?_ _ | refine bw_ ?_ | refine ba_ ?_ _)); exact BK124.out) Try.underlying29 rfl (by kernel_rfl)) rfl ?_
  exact ⟨by first | rfl | (simp [errW_none, errW_some] <;> rfl) | (simp only [← hji11, ← hji13]; first | rfl | (simp [errW_none, errW_some] <;> rfl)) | (simp [*, errW_none, errW_some] <;> rfl), by repeat (first | (with_reducible first | exact HI0.out | apply IsS107.alloc | apply IsS107.drewN | apply IsS107.drew | apply IsS107.set_1 | refine IsS107.far ?_ NB0_124.out _ | refine IsS107.far ?_ NB0_145.out _) | exact HI0.out), by repeat (first | (with_reducible first | exact HB.out | apply na_ | apply nn_ | apply nw_ | refine bs_ ?_ (IsS107.ge HI0.out) | refine bs_ ?_ GE124.out | refine bs_ ?_ GE145.out) | exact HB.out), by repeat (first | (with_reducible first | exact HK.out | apply KeepBut.set_ | apply keep_drewN | apply keep_drew | apply keep_alloc | refine keep_far ?_ GW124.out _ | refine keep_far ?_ GW145.out _) | exact HK.out)⟩
 ·refine bodyPost_ret (results_cell_row rfl _ _ gb1880 29 #[.int .i64 (wrap64 ((wrap64 ((rd y135 t138) - (Int.tmod (rd y135 t138) (ji13)))) + 1)), .int .i64 (rd y127 t130), .int .i64 t141, .int .i64 (wrap64 (4 + (wrap64 (t143 * 6))))] (0, 0) _ rfl (by (with_reducible repeat (first | refine bn_ ?_ _ | refine bw_ ?_ | refine ba_ ?_ _)); refine blk_put (cs := #[.int .i64 (wrap64 ((wrap64 ((rd y135 t138) - (Int.tmod (rd y135 t138) (ji13)))) + 1)), .int .i64 (rd y127 t130), .int .i64 t141, .int .i64 0]) ?_ 3 _ rfl; (with_reducible repeat (first | refine bn_ ?_ _ | refine bw_ ?_ | refine ba_ ?_ _)); refine blk_put (cs := #[.int .i64 (wrap64 ((wrap64 ((rd y135 t138) - (Int.tmod (rd y135 t138) (ji13)))) + 1)), .int .i64 (rd y127 t130), .int .i64 0, .int .i64 0]) ?_ 2 _ rfl; (with_reducible repeat (first | refine bn_ ?_ _ | refine bw_ ?_ | refine ba_ ?_ _)); refine blk_put (cs := #[.int .i64 (wrap64 ((wrap64 ((rd y135 t138) - (Int.tmod (rd y135 t138) (ji13)))) + 1)), .int .i64 0, .int .i64 0, .int .i64 0]) ?_ 1 _ rfl; (with_reducible repeat (first | refine bn_ ?_ _ | refine bw_ ?_ | refine ba_ ?_ _)); refine blk_put (cs := #[.int .i64 0, .int .i64 0, .int .i64 0, .int .i64 0]) ?_ 0 _ rfl; (with_reducible repeat (first | refine bn_ ?_ _ | refine bw_ ?_ | refine ba_ ?_ _)); refine blk_far ?_ NB124_145.out _; (with_reducible repeat (first | refine bn_ ?_ _ | refine bw_ ?_ | refine ba_ ?_ _)); exact BK124.out) Try.underlying29 rfl (by kernel_rfl)) rfl ?_
  exact ⟨by first | rfl | (simp [errW_none, errW_some] <;> rfl) | (simp only [← hji11, ← hji13]; first | rfl | (simp [errW_none, errW_some] <;> rfl)) | (simp [*, errW_none, errW_some] <;> rfl), by repeat (first | (with_reducible first | exact HI0.out | apply IsS107.alloc | apply IsS107.drewN | apply IsS107.drew | apply IsS107.set_1 | refine IsS107.far ?_ NB0_124.out _ | refine IsS107.far ?_ NB0_145.out _) | exact HI0.out), by repeat (first | (with_reducible first | exact HB.out | apply na_ | apply nn_ | apply nw_ | refine bs_ ?_ (IsS107.ge HI0.out) | refine bs_ ?_ GE124.out | refine bs_ ?_ GE145.out) | exact HB.out), by repeat (first | (with_reducible first | exact HK.out | apply KeepBut.set_ | apply keep_drewN | apply keep_drew | apply keep_alloc | refine keep_far ?_ GW124.out _ | refine keep_far ?_ GW145.out _) | exact HK.out)⟩
 ·refine bodyPost_ret (results_cell_row rfl _ _ gb1880 29 #[.int .i64 (wrap64 ((rd y135 t138) - (Int.tmod (rd y135 t138) (ji13)))), .int .i64 (rd y127 t130), .int .i64 t141, .int .i64 (wrap64 (t152 * 49))] (0, 0) _ rfl (by (with_reducible repeat (first | refine bn_ ?_ _ | refine bw_ ?_ | refine ba_ ?_ _)); refine blk_put (cs := #[.int .i64 (wrap64 ((rd y135 t138) - (Int.tmod (rd y135 t138) (ji13)))), .int .i64 (rd y127 t130), .int .i64 t141, .int .i64 0]) ?_ 3 _ rfl; (with_reducible repeat (first | refine bn_ ?_ _ | refine bw_ ?_ | refine ba_ ?_ _)); refine blk_put (cs := #[.int .i64 (wrap64 ((rd y135 t138) - (Int.tmod (rd y135 t138) (ji13)))), .int .i64 (rd y127 t130), .int .i64 0, .int .i64 0]) ?_ 2 _ rfl; (with_reducible repeat (first | refine bn_ ?_ _ | refine bw_ ?_ | refine ba_ ?_ _)); refine blk_put (cs := #[.int .i64 (wrap64 ((rd y135 t138) - (Int.tmod (rd y135 t138) (ji13)))), .int .i64 0, .int .i64 0, .int .i64 0]) ?_ 1 _ rfl; (with_reducible repeat (first | refine bn_ ?_ _ | refine bw_ ?_ | refine ba_ ?_ _)); refine blk_put (cs := #[.int .i64 0, .int .i64 0, .int .i64 0, .int .i64 0]) ?_ 0 _ rfl; (with_reducible repeat (first | refine bn_ ?_ _ | refine bw_ ?_ | refine ba_ ?_ _)); refine blk_far ?_ NB124_145.out _; (with_reducible repeat (first | refine bn_ ?_ _ | refine bw_ ?_ | refine ba_ ?_ _)); exact BK124.out) Try.underlying29 rfl (by kernel_rfl)) rfl ?_
  exact ⟨by first | rfl | (simp [errW_none, errW_some] <;> rfl) | (simp only [← hji11, ← hji13]; first | rfl | (simp [errW_none, errW_some] <;> rfl)) | (simp [*, errW_none, errW_some] <;> rfl), by repeat (first | (with_reducible first | exact HI0.out | apply IsS107.alloc | apply IsS107.drewN | apply IsS107.drew | apply IsS107.set_1 | refine IsS107.far ?_ NB0_124.out _ | refine IsS107.far ?_ NB0_145.out _) | exact HI0.out), by repeat (first | (with_reducible first | exact HB.out | apply na_ | apply nn_ | apply nw_ | refine bs_ ?_ (IsS107.ge HI0.out) | refine bs_ ?_ GE124.out | refine bs_ ?_ GE145.out) | exact HB.out), by repeat (first | (with_reducible first | exact HK.out | apply KeepBut.set_ | apply keep_drewN | apply keep_drew | apply keep_alloc | refine keep_far ?_ GW124.out _ | refine keep_far ?_ GW145.out _) | exact HK.out)⟩

end Go.Proofs.Ytkkibccnpkbbjab.MFnRouteDrop
