/- Functions that the law FnStationOk reaches, each with the proof that the machine's call comes to just its answer; no conditions but those that each theorem states. Printed by a program of this session over the kit's print. -/
import Derived.Test.YtfcocnhkimbpbaaMFnStationOkx0
import Derived.Test.YtfcocnhkimbpbaaMFnStationOkx1
namespace Go.Proofs.Ytfcocnhkimbpbaa.MFnStationOk
open Go.RowKit Go.Proofs.YtfcocnhkimbpbaaV.PrintWords Go.Proofs.YtfcocnhkimbpbaaV.PrintLast Go.Proofs.YtfcocnhkimbpbaaV.PrintMore
attribute [local go_sem] max2_int min2_int max_two min_two max_three min_three max_four min_four   -- for this text's walks alone
set_option linter.unusedVariables false
set_option linter.unusedSimpArgs false

/-! ### spec_l20Route: function 68 -/
def spec_l20Route.f (k : Nat) (s0_0 : List Int) (s0_1 : Int) (a1 : Int) : Option (Int × Int × Int × Int × Int) := (spec_l20Rd_pick.f k s0_0 s0_1 17).bind fun bt188 => ((some (([0, 4, 8, 8, 12, 16, bt188.1] : List Int) : List Int)).bind fun y190 => ((spec_l20Rd_pick.f k s0_0 bt188.2 7).bind fun bt193 => (if 0 ≤ bt193.1 then (if bt193.1 < (y190.length : Int) then ((spec_l20Rd_pick.f k s0_0 bt193.2 512).bind fun bt196 => ((some (([0, 4096, 4352, 4353, wrap64 (4096 + bt196.1), 65535] : List Int) : List Int)).bind fun y198 => ((spec_l20Rd_pick.f k s0_0 bt196.2 6).bind fun bt201 => (if 0 ≤ bt201.1 then (if bt201.1 < (y198.length : Int) then (if 0 ≤ (wrap64 (16 - (rd y190 bt193.1))) then (if (shl .i64 1 (wrap64 (16 - (rd y190 bt193.1)))) = 0 then (none) else ((spec_l20Rd_pick.f k s0_0 bt201.2 3).bind fun bt204 => ((spec_l20Rd_pick.f k s0_0 bt204.2 3).bind fun bt206 => ((spec_l20Rd_odd.f k s0_0 bt206.2 a1).bind fun bt209 => (if bt209.1 = true then ((spec_l20Rd_pick.f k s0_0 bt209.2 3).bind fun bt211 => (if bt211.1 = 0 then ((spec_l20Rd_pick.f k s0_0 bt211.2 2).bind fun bt213 => (some (wrap64 ((rd y198 bt201.1) - (Int.tmod (rd y198 bt201.1) (shl .i64 1 (wrap64 (16 - (rd y190 bt193.1)))))), wrap64 (17 - (wrap64 (bt213.1 * 18))), bt204.1, wrap64 (4 + (wrap64 (bt206.1 * 6))), bt213.2))) else (if bt211.1 = 1 then ((spec_l20Rd_pick.f k s0_0 bt211.2 2).bind fun bt215 => (some (wrap64 ((rd y198 bt201.1) - (Int.tmod (rd y198 bt201.1) (shl .i64 1 (wrap64 (16 - (rd y190 bt193.1)))))), rd y190 bt193.1, bt204.1, wrap64 (bt215.1 * 49), bt215.2))) else (some (wrap64 ((wrap64 ((rd y198 bt201.1) - (Int.tmod (rd y198 bt201.1) (shl .i64 1 (wrap64 (16 - (rd y190 bt193.1))))))) + 1), rd y190 bt193.1, bt204.1, wrap64 (4 + (wrap64 (bt206.1 * 6))), bt211.2))))) else (some (wrap64 ((rd y198 bt201.1) - (Int.tmod (rd y198 bt201.1) (shl .i64 1 (wrap64 (16 - (rd y190 bt193.1)))))), rd y190 bt193.1, bt204.1, wrap64 (4 + (wrap64 (bt206.1 * 6))), bt209.2))))))) else (none)) else (none)) else (none))))) else (none)) else (none))))
theorem spec_l20Route.mono : ∀ a0 a1 a2 k, LeO (spec_l20Route.f k a0 a1 a2) (spec_l20Route.f (k + 1) a0 a1 a2) := by
 intro a0 a1 a2 k
 unfold spec_l20Route.f
 repeat' first
   | (with_reducible exact spec_l20Rd_odd.mono _ _ _ _)
   | (with_reducible exact spec_l20Rd_pick.mono _ _ _ _)
   | (with_reducible exact LeO.refl _)
   | (with_reducible exact LeO.none _)
   | (with_reducible refine LeO.ite ?_ ?_)
   | (with_reducible refine LeO.bind ?_ (fun _ => ?_))
   | exact spec_l20Rd_odd.mono _ _ _ _
   | exact spec_l20Rd_pick.mono _ _ _ _
   | exact LeO.none _
   | refine LeO.ite ?_ ?_
   | refine LeO.bind ?_ (fun _ => ?_)
def spec_l20Route.T3 : Bool × List (List Nat × List Nat) := (true, [([], []), ([], []), ([], []), ([2], [2]), ([3], [3]), ([1, 4], [1, 4]), ([0, 5], [0, 5]), ([], []), ([], []), ([8], [8]), ([], []), ([10, 9], [10]), ([11], [11]), ([12], [12]), ([6, 7, 9, 13], [6, 7, 9, 13]), ([], []), ([15, 14, 11, 0, 1, 2, 3, 4, 5, 6, 7, 8, 9, 10, 11, 12, 13, 14, 15], [14, 15])])
def spec_l20Route.B3 : List Nat := [0, 0, 0, 4, 12, 30, 63, 0, 0, 256, 0, 1792, 3840, 7936, 16383, 0, 65535]
theorem spec_l20Route.tab3 : rtab .any (opsOf Try.f68 3) = spec_l20Route.T3 := by kernel_rfl
theorem spec_l20Route.bits3 : waitsOk spec_l20Route.T3.2 spec_l20Route.B3 = true := by kernel_rfl
set_option maxHeartbeats 8000000 in
set_option maxRecDepth 100000 in
theorem spec_l20Route.calls (k : Nat) (g : Nat) (s0_0 : List Int) (s0_1 : Int) (a1 : Int) (r1 : Int) (r2 : Int) (r3 : Int) (r4 : Int) (r5 : Int) (w0 w : World) (hI : IsS82 w0 w g s0_0 s0_1) (hB : Below w0.heap.size w0 w) (h : spec_l20Route.f k s0_0 s0_1 a1 = some (r1, r2, r3, r4, r5)) :
  Calls Try.prog 68 #[.pointer (some ⟨g, 0, none⟩), .int .i64 a1] w fun e w' => e = .returned (.agg #[.int .i64 r1, .int .i64 r2, .int .i64 r3, .int .i64 r4]) ∧ IsS82 w0 w' g s0_0 r5 ∧ Below w0.heap.size w0 w' ∧ KeepBut w w' g none := by
 have hu88 := Try.underlying88
 have HI0 := mk_ hI
 have HK := mk_ (KeepBut.refl w g none)
 have HL := mk_ hB.size
 clear hI
 have HW0 := mk_ hB.size
 have HB := mk_ hB
 clear hB
 have H : ((spec_l20Rd_pick.f k s0_0 s0_1 17).bind fun bt188 => ((some (([0, 4, 8, 8, 12, 16, bt188.1] : List Int) : List Int)).bind fun y190 => ((spec_l20Rd_pick.f k s0_0 bt188.2 7).bind fun bt193 => (if 0 ≤ bt193.1 then (if bt193.1 < (y190.length : Int) then ((spec_l20Rd_pick.f k s0_0 bt193.2 512).bind fun bt196 => ((some (([0, 4096, 4352, 4353, wrap64 (4096 + bt196.1), 65535] : List Int) : List Int)).bind fun y198 => ((spec_l20Rd_pick.f k s0_0 bt196.2 6).bind fun bt201 => (if 0 ≤ bt201.1 then (if bt201.1 < (y198.length : Int) then (if 0 ≤ (wrap64 (16 - (rd y190 bt193.1))) then (if (shl .i64 1 (wrap64 (16 - (rd y190 bt193.1)))) = 0 then (none) else ((spec_l20Rd_pick.f k s0_0 bt201.2 3).bind fun bt204 => ((spec_l20Rd_pick.f k s0_0 bt204.2 3).bind fun bt206 => ((spec_l20Rd_odd.f k s0_0 bt206.2 a1).bind fun bt209 => (if bt209.1 = true then ((spec_l20Rd_pick.f k s0_0 bt209.2 3).bind fun bt211 => (if bt211.1 = 0 then ((spec_l20Rd_pick.f k s0_0 bt211.2 2).bind fun bt213 => (some (wrap64 ((rd y198 bt201.1) - (Int.tmod (rd y198 bt201.1) (shl .i64 1 (wrap64 (16 - (rd y190 bt193.1)))))), wrap64 (17 - (wrap64 (bt213.1 * 18))), bt204.1, wrap64 (4 + (wrap64 (bt206.1 * 6))), bt213.2))) else (if bt211.1 = 1 then ((spec_l20Rd_pick.f k s0_0 bt211.2 2).bind fun bt215 => (some (wrap64 ((rd y198 bt201.1) - (Int.tmod (rd y198 bt201.1) (shl .i64 1 (wrap64 (16 - (rd y190 bt193.1)))))), rd y190 bt193.1, bt204.1, wrap64 (bt215.1 * 49), bt215.2))) else (some (wrap64 ((wrap64 ((rd y198 bt201.1) - (Int.tmod (rd y198 bt201.1) (shl .i64 1 (wrap64 (16 - (rd y190 bt193.1))))))) + 1), rd y190 bt193.1, bt204.1, wrap64 (4 + (wrap64 (bt206.1 * 6))), bt211.2))))) else (some (wrap64 ((rd y198 bt201.1) - (Int.tmod (rd y198 bt201.1) (shl .i64 1 (wrap64 (16 - (rd y190 bt193.1)))))), rd y190 bt193.1, bt204.1, wrap64 (4 + (wrap64 (bt206.1 * 6))), bt209.2))))))) else (none)) else (none)) else (none))))) else (none)) else (none))))) = some (r1, r2, r3, r4, r5) := h
 clear h
 replace H := Option.bind_eq_some_iff.mp H
 obtain ⟨⟨t188, t189⟩, A30, H⟩ := H
 replace H : ((some (([0, 4, 8, 8, 12, 16, t188] : List Int) : List Int)).bind fun y190 => ((spec_l20Rd_pick.f k s0_0 t189 7).bind fun bt193 => (if 0 ≤ bt193.1 then (if bt193.1 < (y190.length : Int) then ((spec_l20Rd_pick.f k s0_0 bt193.2 512).bind fun bt196 => ((some (([0, 4096, 4352, 4353, wrap64 (4096 + bt196.1), 65535] : List Int) : List Int)).bind fun y198 => ((spec_l20Rd_pick.f k s0_0 bt196.2 6).bind fun bt201 => (if 0 ≤ bt201.1 then (if bt201.1 < (y198.length : Int) then (if 0 ≤ (wrap64 (16 - (rd y190 bt193.1))) then (if (shl .i64 1 (wrap64 (16 - (rd y190 bt193.1)))) = 0 then (none) else ((spec_l20Rd_pick.f k s0_0 bt201.2 3).bind fun bt204 => ((spec_l20Rd_pick.f k s0_0 bt204.2 3).bind fun bt206 => ((spec_l20Rd_odd.f k s0_0 bt206.2 a1).bind fun bt209 => (if bt209.1 = true then ((spec_l20Rd_pick.f k s0_0 bt209.2 3).bind fun bt211 => (if bt211.1 = 0 then ((spec_l20Rd_pick.f k s0_0 bt211.2 2).bind fun bt213 => (some (wrap64 ((rd y198 bt201.1) - (Int.tmod (rd y198 bt201.1) (shl .i64 1 (wrap64 (16 - (rd y190 bt193.1)))))), wrap64 (17 - (wrap64 (bt213.1 * 18))), bt204.1, wrap64 (4 + (wrap64 (bt206.1 * 6))), bt213.2))) else (if bt211.1 = 1 then ((spec_l20Rd_pick.f k s0_0 bt211.2 2).bind fun bt215 => (some (wrap64 ((rd y198 bt201.1) - (Int.tmod (rd y198 bt201.1) (shl .i64 1 (wrap64 (16 - (rd y190 bt193.1)))))), rd y190 bt193.1, bt204.1, wrap64 (bt215.1 * 49), bt215.2))) else (some (wrap64 ((wrap64 ((rd y198 bt201.1) - (Int.tmod (rd y198 bt201.1) (shl .i64 1 (wrap64 (16 - (rd y190 bt193.1))))))) + 1), rd y190 bt193.1, bt204.1, wrap64 (4 + (wrap64 (bt206.1 * 6))), bt211.2))))) else (some (wrap64 ((rd y198 bt201.1) - (Int.tmod (rd y198 bt201.1) (shl .i64 1 (wrap64 (16 - (rd y190 bt193.1)))))), rd y190 bt193.1, bt204.1, wrap64 (4 + (wrap64 (bt206.1 * 6))), bt209.2))))))) else (none)) else (none)) else (none))))) else (none)) else (none)))) = some (r1, r2, r3, r4, r5) := H
 have A3 := mk_ A30
 clear A30
 obtain ⟨y190, hy190⟩ : ∃ y_ : List Int, y_ = (([0, 4, 8, 8, 12, 16, t188] : List Int)) := ⟨_, rfl⟩
 replace H : ((spec_l20Rd_pick.f k s0_0 t189 7).bind fun bt193 => (if 0 ≤ bt193.1 then (if bt193.1 < (y190.length : Int) then ((spec_l20Rd_pick.f k s0_0 bt193.2 512).bind fun bt196 => ((some (([0, 4096, 4352, 4353, wrap64 (4096 + bt196.1), 65535] : List Int) : List Int)).bind fun y198 => ((spec_l20Rd_pick.f k s0_0 bt196.2 6).bind fun bt201 => (if 0 ≤ bt201.1 then (if bt201.1 < (y198.length : Int) then (if 0 ≤ (wrap64 (16 - (rd y190 bt193.1))) then (if (shl .i64 1 (wrap64 (16 - (rd y190 bt193.1)))) = 0 then (none) else ((spec_l20Rd_pick.f k s0_0 bt201.2 3).bind fun bt204 => ((spec_l20Rd_pick.f k s0_0 bt204.2 3).bind fun bt206 => ((spec_l20Rd_odd.f k s0_0 bt206.2 a1).bind fun bt209 => (if bt209.1 = true then ((spec_l20Rd_pick.f k s0_0 bt209.2 3).bind fun bt211 => (if bt211.1 = 0 then ((spec_l20Rd_pick.f k s0_0 bt211.2 2).bind fun bt213 => (some (wrap64 ((rd y198 bt201.1) - (Int.tmod (rd y198 bt201.1) (shl .i64 1 (wrap64 (16 - (rd y190 bt193.1)))))), wrap64 (17 - (wrap64 (bt213.1 * 18))), bt204.1, wrap64 (4 + (wrap64 (bt206.1 * 6))), bt213.2))) else (if bt211.1 = 1 then ((spec_l20Rd_pick.f k s0_0 bt211.2 2).bind fun bt215 => (some (wrap64 ((rd y198 bt201.1) - (Int.tmod (rd y198 bt201.1) (shl .i64 1 (wrap64 (16 - (rd y190 bt193.1)))))), rd y190 bt193.1, bt204.1, wrap64 (bt215.1 * 49), bt215.2))) else (some (wrap64 ((wrap64 ((rd y198 bt201.1) - (Int.tmod (rd y198 bt201.1) (shl .i64 1 (wrap64 (16 - (rd y190 bt193.1))))))) + 1), rd y190 bt193.1, bt204.1, wrap64 (4 + (wrap64 (bt206.1 * 6))), bt211.2))))) else (some (wrap64 ((rd y198 bt201.1) - (Int.tmod (rd y198 bt201.1) (shl .i64 1 (wrap64 (16 - (rd y190 bt193.1)))))), rd y190 bt193.1, bt204.1, wrap64 (4 + (wrap64 (bt206.1 * 6))), bt209.2))))))) else (none)) else (none)) else (none))))) else (none)) else (none))) = some (r1, r2, r3, r4, r5) := by first | (rw [hy190]; with_reducible exact H) | (have H2_ := (Option.bind_some _ _).symm.trans H; rw [hy190]; with_reducible exact H2_) | (have H2_ := (Option.bind_some _ _).symm.trans H; with_reducible exact H2_) | with_reducible exact H | (rw [hy190]; exact H) | exact H
 have Ny190 := mk_ hy190
 clear hy190
 replace H := Option.bind_eq_some_iff.mp H
 obtain ⟨⟨t193, t194⟩, A40, H⟩ := H
 replace H : (if 0 ≤ t193 then (if t193 < (y190.length : Int) then ((spec_l20Rd_pick.f k s0_0 t194 512).bind fun bt196 => ((some (([0, 4096, 4352, 4353, wrap64 (4096 + bt196.1), 65535] : List Int) : List Int)).bind fun y198 => ((spec_l20Rd_pick.f k s0_0 bt196.2 6).bind fun bt201 => (if 0 ≤ bt201.1 then (if bt201.1 < (y198.length : Int) then (if 0 ≤ (wrap64 (16 - (rd y190 t193))) then (if (shl .i64 1 (wrap64 (16 - (rd y190 t193)))) = 0 then (none) else ((spec_l20Rd_pick.f k s0_0 bt201.2 3).bind fun bt204 => ((spec_l20Rd_pick.f k s0_0 bt204.2 3).bind fun bt206 => ((spec_l20Rd_odd.f k s0_0 bt206.2 a1).bind fun bt209 => (if bt209.1 = true then ((spec_l20Rd_pick.f k s0_0 bt209.2 3).bind fun bt211 => (if bt211.1 = 0 then ((spec_l20Rd_pick.f k s0_0 bt211.2 2).bind fun bt213 => (some (wrap64 ((rd y198 bt201.1) - (Int.tmod (rd y198 bt201.1) (shl .i64 1 (wrap64 (16 - (rd y190 t193)))))), wrap64 (17 - (wrap64 (bt213.1 * 18))), bt204.1, wrap64 (4 + (wrap64 (bt206.1 * 6))), bt213.2))) else (if bt211.1 = 1 then ((spec_l20Rd_pick.f k s0_0 bt211.2 2).bind fun bt215 => (some (wrap64 ((rd y198 bt201.1) - (Int.tmod (rd y198 bt201.1) (shl .i64 1 (wrap64 (16 - (rd y190 t193)))))), rd y190 t193, bt204.1, wrap64 (bt215.1 * 49), bt215.2))) else (some (wrap64 ((wrap64 ((rd y198 bt201.1) - (Int.tmod (rd y198 bt201.1) (shl .i64 1 (wrap64 (16 - (rd y190 t193))))))) + 1), rd y190 t193, bt204.1, wrap64 (4 + (wrap64 (bt206.1 * 6))), bt211.2))))) else (some (wrap64 ((rd y198 bt201.1) - (Int.tmod (rd y198 bt201.1) (shl .i64 1 (wrap64 (16 - (rd y190 t193)))))), rd y190 t193, bt204.1, wrap64 (4 + (wrap64 (bt206.1 * 6))), bt209.2))))))) else (none)) else (none)) else (none))))) else (none)) else (none)) = some (r1, r2, r3, r4, r5) := H
 have A4 := mk_ A40
 clear A40
 by_cases c5 : 0 ≤ t193
 rotate_left
 ·rw [if_neg c5] at H
  exact absurd H (by simp)
 rw [if_pos c5] at H
 have c5b0 : decide (0 ≤ t193) = true := decide_eq_true c5
 clear c5
 by_cases c6 : t193 < (y190.length : Int)
 rotate_left
 ·rw [if_neg c6] at H
  exact absurd H (by simp)
 rw [if_pos c6] at H
 have c6b0 : decide (t193 < (y190.length : Int)) = true := decide_eq_true c6
 clear c6
 replace H := Option.bind_eq_some_iff.mp H
 obtain ⟨⟨t196, t197⟩, A70, H⟩ := H
 replace H : ((some (([0, 4096, 4352, 4353, wrap64 (4096 + t196), 65535] : List Int) : List Int)).bind fun y198 => ((spec_l20Rd_pick.f k s0_0 t197 6).bind fun bt201 => (if 0 ≤ bt201.1 then (if bt201.1 < (y198.length : Int) then (if 0 ≤ (wrap64 (16 - (rd y190 t193))) then (if (shl .i64 1 (wrap64 (16 - (rd y190 t193)))) = 0 then (none) else ((spec_l20Rd_pick.f k s0_0 bt201.2 3).bind fun bt204 => ((spec_l20Rd_pick.f k s0_0 bt204.2 3).bind fun bt206 => ((spec_l20Rd_odd.f k s0_0 bt206.2 a1).bind fun bt209 => (if bt209.1 = true then ((spec_l20Rd_pick.f k s0_0 bt209.2 3).bind fun bt211 => (if bt211.1 = 0 then ((spec_l20Rd_pick.f k s0_0 bt211.2 2).bind fun bt213 => (some (wrap64 ((rd y198 bt201.1) - (Int.tmod (rd y198 bt201.1) (shl .i64 1 (wrap64 (16 - (rd y190 t193)))))), wrap64 (17 - (wrap64 (bt213.1 * 18))), bt204.1, wrap64 (4 + (wrap64 (bt206.1 * 6))), bt213.2))) else (if bt211.1 = 1 then ((spec_l20Rd_pick.f k s0_0 bt211.2 2).bind fun bt215 => (some (wrap64 ((rd y198 bt201.1) - (Int.tmod (rd y198 bt201.1) (shl .i64 1 (wrap64 (16 - (rd y190 t193)))))), rd y190 t193, bt204.1, wrap64 (bt215.1 * 49), bt215.2))) else (some (wrap64 ((wrap64 ((rd y198 bt201.1) - (Int.tmod (rd y198 bt201.1) (shl .i64 1 (wrap64 (16 - (rd y190 t193))))))) + 1), rd y190 t193, bt204.1, wrap64 (4 + (wrap64 (bt206.1 * 6))), bt211.2))))) else (some (wrap64 ((rd y198 bt201.1) - (Int.tmod (rd y198 bt201.1) (shl .i64 1 (wrap64 (16 - (rd y190 t193)))))), rd y190 t193, bt204.1, wrap64 (4 + (wrap64 (bt206.1 * 6))), bt209.2))))))) else (none)) else (none)) else (none)))) = some (r1, r2, r3, r4, r5) := H
 have A7 := mk_ A70
 clear A70
 obtain ⟨y198, hy198⟩ : ∃ y_ : List Int, y_ = (([0, 4096, 4352, 4353, wrap64 (4096 + t196), 65535] : List Int)) := ⟨_, rfl⟩
 replace H : ((spec_l20Rd_pick.f k s0_0 t197 6).bind fun bt201 => (if 0 ≤ bt201.1 then (if bt201.1 < (y198.length : Int) then (if 0 ≤ (wrap64 (16 - (rd y190 t193))) then (if (shl .i64 1 (wrap64 (16 - (rd y190 t193)))) = 0 then (none) else ((spec_l20Rd_pick.f k s0_0 bt201.2 3).bind fun bt204 => ((spec_l20Rd_pick.f k s0_0 bt204.2 3).bind fun bt206 => ((spec_l20Rd_odd.f k s0_0 bt206.2 a1).bind fun bt209 => (if bt209.1 = true then ((spec_l20Rd_pick.f k s0_0 bt209.2 3).bind fun bt211 => (if bt211.1 = 0 then ((spec_l20Rd_pick.f k s0_0 bt211.2 2).bind fun bt213 => (some (wrap64 ((rd y198 bt201.1) - (Int.tmod (rd y198 bt201.1) (shl .i64 1 (wrap64 (16 - (rd y190 t193)))))), wrap64 (17 - (wrap64 (bt213.1 * 18))), bt204.1, wrap64 (4 + (wrap64 (bt206.1 * 6))), bt213.2))) else (if bt211.1 = 1 then ((spec_l20Rd_pick.f k s0_0 bt211.2 2).bind fun bt215 => (some (wrap64 ((rd y198 bt201.1) - (Int.tmod (rd y198 bt201.1) (shl .i64 1 (wrap64 (16 - (rd y190 t193)))))), rd y190 t193, bt204.1, wrap64 (bt215.1 * 49), bt215.2))) else (some (wrap64 ((wrap64 ((rd y198 bt201.1) - (Int.tmod (rd y198 bt201.1) (shl .i64 1 (wrap64 (16 - (rd y190 t193))))))) + 1), rd y190 t193, bt204.1, wrap64 (4 + (wrap64 (bt206.1 * 6))), bt211.2))))) else (some (wrap64 ((rd y198 bt201.1) - (Int.tmod (rd y198 bt201.1) (shl .i64 1 (wrap64 (16 - (rd y190 t193)))))), rd y190 t193, bt204.1, wrap64 (4 + (wrap64 (bt206.1 * 6))), bt209.2))))))) else (none)) else (none)) else (none))) = some (r1, r2, r3, r4, r5) := by first | (rw [hy198]; with_reducible exact H) | (have H2_ := (Option.bind_some _ _).symm.trans H; rw [hy198]; with_reducible exact H2_) | (have H2_ := (Option.bind_some _ _).symm.trans H; with_reducible exact H2_) | with_reducible exact H | (rw [hy198]; exact H) | exact H
 have Ny198 := mk_ hy198
 clear hy198
 replace H := Option.bind_eq_some_iff.mp H
 obtain ⟨⟨t201, t202⟩, A80, H⟩ := H
 replace H : (if 0 ≤ t201 then (if t201 < (y198.length : Int) then (if 0 ≤ (wrap64 (16 - (rd y190 t193))) then (if (shl .i64 1 (wrap64 (16 - (rd y190 t193)))) = 0 then (none) else ((spec_l20Rd_pick.f k s0_0 t202 3).bind fun bt204 => ((spec_l20Rd_pick.f k s0_0 bt204.2 3).bind fun bt206 => ((spec_l20Rd_odd.f k s0_0 bt206.2 a1).bind fun bt209 => (if bt209.1 = true then ((spec_l20Rd_pick.f k s0_0 bt209.2 3).bind fun bt211 => (if bt211.1 = 0 then ((spec_l20Rd_pick.f k s0_0 bt211.2 2).bind fun bt213 => (some (wrap64 ((rd y198 t201) - (Int.tmod (rd y198 t201) (shl .i64 1 (wrap64 (16 - (rd y190 t193)))))), wrap64 (17 - (wrap64 (bt213.1 * 18))), bt204.1, wrap64 (4 + (wrap64 (bt206.1 * 6))), bt213.2))) else (if bt211.1 = 1 then ((spec_l20Rd_pick.f k s0_0 bt211.2 2).bind fun bt215 => (some (wrap64 ((rd y198 t201) - (Int.tmod (rd y198 t201) (shl .i64 1 (wrap64 (16 - (rd y190 t193)))))), rd y190 t193, bt204.1, wrap64 (bt215.1 * 49), bt215.2))) else (some (wrap64 ((wrap64 ((rd y198 t201) - (Int.tmod (rd y198 t201) (shl .i64 1 (wrap64 (16 - (rd y190 t193))))))) + 1), rd y190 t193, bt204.1, wrap64 (4 + (wrap64 (bt206.1 * 6))), bt211.2))))) else (some (wrap64 ((rd y198 t201) - (Int.tmod (rd y198 t201) (shl .i64 1 (wrap64 (16 - (rd y190 t193)))))), rd y190 t193, bt204.1, wrap64 (4 + (wrap64 (bt206.1 * 6))), bt209.2))))))) else (none)) else (none)) else (none)) = some (r1, r2, r3, r4, r5) := H
 have A8 := mk_ A80
 clear A80
 by_cases c9 : 0 ≤ t201
 rotate_left
 ·rw [if_neg c9] at H
  exact absurd H (by simp)
 rw [if_pos c9] at H
 have c9b0 : decide (0 ≤ t201) = true := decide_eq_true c9
 clear c9
 by_cases c10 : t201 < (y198.length : Int)
 rotate_left
 ·rw [if_neg c10] at H
  exact absurd H (by simp)
 rw [if_pos c10] at H
 have c10b0 : decide (t201 < (y198.length : Int)) = true := decide_eq_true c10
 clear c10
 obtain ⟨ji11, hji11⟩ : ∃ j_ : Int, (wrap64 (16 - (rd y190 t193))) = j_ := ⟨_, rfl⟩
 replace H : (if 0 ≤ (ji11) then (if (shl .i64 1 (ji11)) = 0 then (none) else ((spec_l20Rd_pick.f k s0_0 t202 3).bind fun bt204 => ((spec_l20Rd_pick.f k s0_0 bt204.2 3).bind fun bt206 => ((spec_l20Rd_odd.f k s0_0 bt206.2 a1).bind fun bt209 => (if bt209.1 = true then ((spec_l20Rd_pick.f k s0_0 bt209.2 3).bind fun bt211 => (if bt211.1 = 0 then ((spec_l20Rd_pick.f k s0_0 bt211.2 2).bind fun bt213 => (some (wrap64 ((rd y198 t201) - (Int.tmod (rd y198 t201) (shl .i64 1 (ji11)))), wrap64 (17 - (wrap64 (bt213.1 * 18))), bt204.1, wrap64 (4 + (wrap64 (bt206.1 * 6))), bt213.2))) else (if bt211.1 = 1 then ((spec_l20Rd_pick.f k s0_0 bt211.2 2).bind fun bt215 => (some (wrap64 ((rd y198 t201) - (Int.tmod (rd y198 t201) (shl .i64 1 (ji11)))), rd y190 t193, bt204.1, wrap64 (bt215.1 * 49), bt215.2))) else (some (wrap64 ((wrap64 ((rd y198 t201) - (Int.tmod (rd y198 t201) (shl .i64 1 (ji11))))) + 1), rd y190 t193, bt204.1, wrap64 (4 + (wrap64 (bt206.1 * 6))), bt211.2))))) else (some (wrap64 ((rd y198 t201) - (Int.tmod (rd y198 t201) (shl .i64 1 (ji11)))), rd y190 t193, bt204.1, wrap64 (4 + (wrap64 (bt206.1 * 6))), bt209.2))))))) else (none)) = some (r1, r2, r3, r4, r5) := by first | (rw [hji11] at H; exact H) | (simp only [hji11] at H ⊢; exact H)
 (try rw [hji11] at A3)
 (try rw [hji11] at A4)
 (try rw [hji11] at A7)
 (try rw [hji11] at A8)
 have hji11w : (IntKind.i64.wrap (16 - (rd y190 t193))) = ji11 := (i64_w _).trans hji11
 by_cases c12 : 0 ≤ (ji11)
 rotate_left
 ·rw [if_neg c12] at H
  exact absurd H (by simp)
 rw [if_pos c12] at H
 have c12b0 := eq_true c12
 have c12b1 : decide (0 ≤ (ji11)) = true := decide_eq_true c12
 clear c12
 obtain ⟨ji13, hji13⟩ : ∃ j_ : Int, (shl .i64 1 (ji11)) = j_ := ⟨_, rfl⟩
 replace H : (if (ji13) = 0 then (none) else ((spec_l20Rd_pick.f k s0_0 t202 3).bind fun bt204 => ((spec_l20Rd_pick.f k s0_0 bt204.2 3).bind fun bt206 => ((spec_l20Rd_odd.f k s0_0 bt206.2 a1).bind fun bt209 => (if bt209.1 = true then ((spec_l20Rd_pick.f k s0_0 bt209.2 3).bind fun bt211 => (if bt211.1 = 0 then ((spec_l20Rd_pick.f k s0_0 bt211.2 2).bind fun bt213 => (some (wrap64 ((rd y198 t201) - (Int.tmod (rd y198 t201) (ji13))), wrap64 (17 - (wrap64 (bt213.1 * 18))), bt204.1, wrap64 (4 + (wrap64 (bt206.1 * 6))), bt213.2))) else (if bt211.1 = 1 then ((spec_l20Rd_pick.f k s0_0 bt211.2 2).bind fun bt215 => (some (wrap64 ((rd y198 t201) - (Int.tmod (rd y198 t201) (ji13))), rd y190 t193, bt204.1, wrap64 (bt215.1 * 49), bt215.2))) else (some (wrap64 ((wrap64 ((rd y198 t201) - (Int.tmod (rd y198 t201) (ji13)))) + 1), rd y190 t193, bt204.1, wrap64 (4 + (wrap64 (bt206.1 * 6))), bt211.2))))) else (some (wrap64 ((rd y198 t201) - (Int.tmod (rd y198 t201) (ji13))), rd y190 t193, bt204.1, wrap64 (4 + (wrap64 (bt206.1 * 6))), bt209.2))))))) = some (r1, r2, r3, r4, r5) := by first | (rw [hji13] at H; exact H) | (simp only [hji13] at H ⊢; exact H)
 (try rw [hji13] at A3)
 (try rw [hji13] at A4)
 (try rw [hji13] at A7)
 (try rw [hji13] at A8)
 have hji13_ : (IntKind.i64.wrap (1 * 2 ^ min (ji11).toNat 64)) = ji13 := hji13
 have hji13z : (ji11) ≤ 64 → (IntKind.i64.wrap (1 * 2 ^ (ji11).toNat)) = ji13 := shl_small hji13
 have hji13u : (IntKind.i64.wrap (2 ^ min (ji11).toNat 64)) = ji13 := by have h_ := hji13_; rw [Int.one_mul] at h_; exact h_
 have hji13v : (ji11) ≤ 64 → (IntKind.i64.wrap (2 ^ (ji11).toNat)) = ji13 := fun hle_ => by have h_ := hji13z hle_; rw [Int.one_mul] at h_; exact h_
 have hji13y : (wrap64 (1 * 2 ^ min (ji11).toNat 64)) = ji13 := (i64_w _).symm.trans hji13_
 have hji13x : (ji11) ≤ 64 → (wrap64 (1 * 2 ^ (ji11).toNat)) = ji13 := fun h_ => (i64_w _).symm.trans (hji13z h_)
 by_cases c14 : (ji13) = 0
 ·rw [if_pos c14] at H
  exact absurd H (by simp)
 rw [if_neg c14] at H
 have c14b0 : ((ji13) == 0) = false := beq_eq_false_iff_ne.mpr c14
 have c14b1 : ((ji13) != 0) = true := bne_iff_ne.mpr c14
 replace H := Option.bind_eq_some_iff.mp H
 obtain ⟨⟨t204, t205⟩, A150, H⟩ := H
 replace H : ((spec_l20Rd_pick.f k s0_0 t205 3).bind fun bt206 => ((spec_l20Rd_odd.f k s0_0 bt206.2 a1).bind fun bt209 => (if bt209.1 = true then ((spec_l20Rd_pick.f k s0_0 bt209.2 3).bind fun bt211 => (if bt211.1 = 0 then ((spec_l20Rd_pick.f k s0_0 bt211.2 2).bind fun bt213 => (some (wrap64 ((rd y198 t201) - (Int.tmod (rd y198 t201) (ji13))), wrap64 (17 - (wrap64 (bt213.1 * 18))), t204, wrap64 (4 + (wrap64 (bt206.1 * 6))), bt213.2))) else (if bt211.1 = 1 then ((spec_l20Rd_pick.f k s0_0 bt211.2 2).bind fun bt215 => (some (wrap64 ((rd y198 t201) - (Int.tmod (rd y198 t201) (ji13))), rd y190 t193, t204, wrap64 (bt215.1 * 49), bt215.2))) else (some (wrap64 ((wrap64 ((rd y198 t201) - (Int.tmod (rd y198 t201) (ji13)))) + 1), rd y190 t193, t204, wrap64 (4 + (wrap64 (bt206.1 * 6))), bt211.2))))) else (some (wrap64 ((rd y198 t201) - (Int.tmod (rd y198 t201) (ji13))), rd y190 t193, t204, wrap64 (4 + (wrap64 (bt206.1 * 6))), bt209.2))))) = some (r1, r2, r3, r4, r5) := H
 have A15 := mk_ A150
 clear A150
 replace H := Option.bind_eq_some_iff.mp H
 obtain ⟨⟨t206, t207⟩, A160, H⟩ := H
 replace H : ((spec_l20Rd_odd.f k s0_0 t207 a1).bind fun bt209 => (if bt209.1 = true then ((spec_l20Rd_pick.f k s0_0 bt209.2 3).bind fun bt211 => (if bt211.1 = 0 then ((spec_l20Rd_pick.f k s0_0 bt211.2 2).bind fun bt213 => (some (wrap64 ((rd y198 t201) - (Int.tmod (rd y198 t201) (ji13))), wrap64 (17 - (wrap64 (bt213.1 * 18))), t204, wrap64 (4 + (wrap64 (t206 * 6))), bt213.2))) else (if bt211.1 = 1 then ((spec_l20Rd_pick.f k s0_0 bt211.2 2).bind fun bt215 => (some (wrap64 ((rd y198 t201) - (Int.tmod (rd y198 t201) (ji13))), rd y190 t193, t204, wrap64 (bt215.1 * 49), bt215.2))) else (some (wrap64 ((wrap64 ((rd y198 t201) - (Int.tmod (rd y198 t201) (ji13)))) + 1), rd y190 t193, t204, wrap64 (4 + (wrap64 (t206 * 6))), bt211.2))))) else (some (wrap64 ((rd y198 t201) - (Int.tmod (rd y198 t201) (ji13))), rd y190 t193, t204, wrap64 (4 + (wrap64 (t206 * 6))), bt209.2)))) = some (r1, r2, r3, r4, r5) := H
 have A16 := mk_ A160
 clear A160
 replace H := Option.bind_eq_some_iff.mp H
 obtain ⟨⟨t209, t210⟩, A170, H⟩ := H
 replace H : (if t209 = true then ((spec_l20Rd_pick.f k s0_0 t210 3).bind fun bt211 => (if bt211.1 = 0 then ((spec_l20Rd_pick.f k s0_0 bt211.2 2).bind fun bt213 => (some (wrap64 ((rd y198 t201) - (Int.tmod (rd y198 t201) (ji13))), wrap64 (17 - (wrap64 (bt213.1 * 18))), t204, wrap64 (4 + (wrap64 (t206 * 6))), bt213.2))) else (if bt211.1 = 1 then ((spec_l20Rd_pick.f k s0_0 bt211.2 2).bind fun bt215 => (some (wrap64 ((rd y198 t201) - (Int.tmod (rd y198 t201) (ji13))), rd y190 t193, t204, wrap64 (bt215.1 * 49), bt215.2))) else (some (wrap64 ((wrap64 ((rd y198 t201) - (Int.tmod (rd y198 t201) (ji13)))) + 1), rd y190 t193, t204, wrap64 (4 + (wrap64 (t206 * 6))), bt211.2))))) else (some (wrap64 ((rd y198 t201) - (Int.tmod (rd y198 t201) (ji13))), rd y190 t193, t204, wrap64 (4 + (wrap64 (t206 * 6))), t210))) = some (r1, r2, r3, r4, r5) := H
 have A17 := mk_ A170
 clear A170
 by_cases c18 : t209 = true
 rotate_left
 ·replace c18 := Bool.eq_false_iff.mpr c18
  subst c18
  have H1 : (some (wrap64 ((rd y198 t201) - (Int.tmod (rd y198 t201) (ji13))), rd y190 t193, t204, wrap64 (4 + (wrap64 (t206 * 6))), t210)) = some (r1, r2, r3, r4, r5) := by rw [if_neg (show ¬ (false = true) by decide)] at H; exact H
  clear H
  have H := H1
  clear H1
  simp only [Option.some.injEq, Prod.mk.injEq] at H
  obtain ⟨rfl, rfl, rfl, rfl, rfl⟩ := H
  go_enter Try.func68, Try.ntmps68
  try go_wp2_with (first | ((with_reducible refine gate_dst (N := 4) rfl ?_); refine box_event ?hg (N := 4) ?hd (cs := #[.int .i64 0, .int .i64 0, .int .i64 0, .int .i64 0]) (t := 88) ?hr ?_; (case hd => rfl); (case hg => rfl); (case hr => first | (go_simp; done) | (go_simp; rfl)); intro gb187 hg w107 hbox hb; have n0_ := mk_ (IsS82.below (by repeat (first | (with_reducible first | exact HI0.out | apply IsS82.alloc | apply IsS82.drewN | apply IsS82.drew | apply IsS82.set_1) | exact HI0.out)) hb); have n1_ := mk_ (KeepBut.trans (by repeat (first | (with_reducible first | exact HK.out | apply KeepBut.set_ | apply keep_drewN | apply keep_drew | apply keep_alloc) | exact HK.out)) (KeepBut.of_below hb g none) (.inl rfl)); have n2_ := mk_ (below_step (by repeat (first | (with_reducible first | exact HB.out | apply na_ | apply nn_ | apply nw_ | refine bs_ ?_ (IsS82.ge HI0.out)) | exact HB.out)) hb); have n3_ := mk_ (hbox); have n4_ := mk_ ((by rw [hg]; exact (keep_size (w := w) (g := g) (row := none) (by repeat (first | (with_reducible first | exact HK.out | apply KeepBut.set_ | apply keep_drewN | apply keep_drew | apply keep_alloc) | exact HK.out))) : w.heap.size ≤ gb187)); have n5_ := mk_ ((Nat.le_trans HW0.out (by rw [hg]; exact (keep_size (w := w) (g := g) (row := none) (by repeat (first | (with_reducible first | exact HK.out | apply KeepBut.set_ | apply keep_drewN | apply keep_drew | apply keep_alloc) | exact HK.out))) : w.heap.size ≤ gb187) : w0.heap.size ≤ gb187)); have n6_ := mk_ ((by rw [hg]; exact Nat.ne_of_lt (IsS82.lt (show IsS82 w0 _ g s0_0 s0_1 from by repeat (first | (with_reducible first | exact HI0.out | apply IsS82.alloc | apply IsS82.drewN | apply IsS82.drew | apply IsS82.set_1) | exact HI0.out))) : g ≠ gb187)); have n7_ := mk_ ((by rw [hg]; exact Nat.ne_of_gt (IsS82.lt (show IsS82 w0 _ g s0_0 s0_1 from by repeat (first | (with_reducible first | exact HI0.out | apply IsS82.alloc | apply IsS82.drewN | apply IsS82.drew | apply IsS82.set_1) | exact HI0.out))) : gb187 ≠ g)); clear HI0; clear HK; clear HB; have HI0 := n0_; have HK := n1_; have HB := n2_; have BK187 := n3_; have GW187 := n4_; have GE187 := ge_ n5_.out; have NB0_187 := nq_ n6_.out; have NB187_0 := nq_ n7_.out; clear n0_ n1_ n2_ n3_ n4_ n5_ n6_ n7_; clear hb hbox hg) | ((with_reducible refine gate_callee (f := 46) rfl ?_); have hA_ := A3.out; refine goesL_ (some 9) rfl rfl Try.func46 (by kernel_rfl) rfl #[.pointer (some ⟨g, 0, none⟩), .int .i64 17] rfl (by (try simp only [lm_, lo_, ln_]); first | done | rfl | (simp only [List.length_drop, List.length_take]; rfl)) ?_; (with_reducible refine (spec_l20Rd_pick.calls k g s0_0 s0_1 17 t188 t189 w0 _ ?side1 ?side2 A3.out).mono ?_); (case side1 => repeat (first | (with_reducible first | exact HI0.out | apply IsS82.alloc | apply IsS82.drewN | apply IsS82.drew | apply IsS82.set_1 | refine IsS82.far ?_ NB0_187.out _) | exact HI0.out)); (case side2 => repeat (first | (with_reducible first | exact HB.out | apply na_ | apply nn_ | apply nw_ | refine bs_ ?_ (IsS82.ge HI0.out) | refine bs_ ?_ GE187.out) | exact HB.out)); rintro e w108 ⟨rfl, hi, hb, hk⟩; refine ⟨_, rfl, ?_⟩; have n0_ := mk_ (KeepBut.blk hk (g' := gb187) (o := .cells #[.int .i64 0, .int .i64 0, .int .i64 0, .int .i64 0] 88 (0, 0)) (u_ BK187.out) NB187_0.out (by simp)); have n1_ := mk_ (KeepBut.trans (by repeat (first | (with_reducible first | exact HK.out | apply KeepBut.set_ | apply keep_drewN | apply keep_drew | apply keep_alloc | refine keep_far ?_ GW187.out _) | exact HK.out)) hk (.inl rfl)); have n2_ := mk_ (hb); have n3_ := mk_ (hi); clear BK187; clear HK; clear HB; clear HI0; have BK187 := n0_; have HK := n1_; have HB := n2_; have HI0 := n3_; clear n0_ n1_ n2_ n3_; (try clear hb); (try clear hb2); (try clear hk); (try clear hi); clear hA_ A3) | ((with_reducible refine gate_dst (N := 10) rfl ?_); refine Kd.R_lit (Kd.int .i64) _ 3 ?hg (N := 10) ?hd (xs := ([0, 4, 8, 8, 12, 16, t188] : List Int)) (inner := [.int .i64 0, .int .i64 4, .int .i64 8, .int .i64 8, .int .i64 12, .int .i64 16, .int .i64 t188]) (ok := fun _ => True) (okp := fun _ => True) ?hr ?hp (fun _ hk => hk) trivial (Below.refl _ _) (Nat.le_refl _) (by simp) ?_; (case hd => rfl); (case hg => rfl); (case hr => first | (go_simp; done) | (go_simp; rfl)); (case hp => exact (Reps.one (show Kd.M (Kd.int .i64) _ _ _ 0 [.int .i64 0] from rfl) (Reps.one (show Kd.M (Kd.int .i64) _ _ _ 4 [.int .i64 4] from rfl) (Reps.one (show Kd.M (Kd.int .i64) _ _ _ 8 [.int .i64 8] from rfl) (Reps.one (show Kd.M (Kd.int .i64) _ _ _ 8 [.int .i64 8] from rfl) (Reps.one (show Kd.M (Kd.int .i64) _ _ _ 12 [.int .i64 12] from rfl) (Reps.one (show Kd.M (Kd.int .i64) _ _ _ 16 [.int .i64 16] from rfl) (Reps.one (show Kd.M (Kd.int .i64) _ _ _ t188 [.int .i64 t188] from rfl) (Reps.none _ _))))))))); intro v191 w109 ho110 hb hg_ hnew_; clear hg_ hnew_; (first | rw [← Ny190.out] at ho110 | (simp only [Int.reduceToNat] at ho110; rw [← Ny190.out] at ho110)); have n0_ := mk_ (Kd.R_lower ho110 (keep_size (w := w) (g := g) (row := none) (by repeat (first | (with_reducible first | exact HK.out | apply KeepBut.set_ | apply keep_drewN | apply keep_drew | apply keep_alloc | refine keep_far ?_ GW187.out _) | exact HK.out)))); have n1_ := mk_ (IsS82.below (by repeat (first | (with_reducible first | exact HI0.out | apply IsS82.alloc | apply IsS82.drewN | apply IsS82.drew | apply IsS82.set_1 | refine IsS82.far ?_ NB0_187.out _) | exact HI0.out)) hb); have n2_ := mk_ (blk_below (u_ BK187.out) hb); have n3_ := mk_ (KeepBut.trans (by repeat (first | (with_reducible first | exact HK.out | apply KeepBut.set_ | apply keep_drewN | apply keep_drew | apply keep_alloc | refine keep_far ?_ GW187.out _) | exact HK.out)) (KeepBut.of_below hb g none) (.inl rfl)); have n4_ := mk_ (below_step (by repeat (first | (with_reducible first | exact HB.out | apply na_ | apply nn_ | apply nw_ | refine bs_ ?_ (IsS82.ge HI0.out) | refine bs_ ?_ GE187.out) | exact HB.out)) hb); clear HI0; clear BK187; clear HK; clear HB; have HO192 := n0_; have HI0 := n1_; have BK187 := n2_; have HK := n3_; have HB := n4_; clear n0_ n1_ n2_ n3_ n4_; clear hb ho110) | ((with_reducible refine gate_callee (f := 46) rfl ?_); have hA_ := A4.out; refine goesL_ (some 12) rfl rfl Try.func46 (by kernel_rfl) rfl #[.pointer (some ⟨g, 0, none⟩), .int .i64 7] rfl (by (try simp only [lm_, lo_, ln_]); first | done | rfl | (simp only [List.length_drop, List.length_take]; rfl)) ?_; (with_reducible refine (spec_l20Rd_pick.calls k g s0_0 t189 7 t193 t194 w0 _ ?side1 ?side2 A4.out).mono ?_); (case side1 => repeat (first | (with_reducible first | exact HI0.out | apply IsS82.alloc | apply IsS82.drewN | apply IsS82.drew | apply IsS82.set_1 | refine IsS82.far ?_ NB0_187.out _) | exact HI0.out)); (case side2 => repeat (first | (with_reducible first | exact HB.out | apply na_ | apply nn_ | apply nw_ | refine bs_ ?_ (IsS82.ge HI0.out) | refine bs_ ?_ GE187.out) | exact HB.out)); rintro e w111 ⟨rfl, hi, hb, hk⟩; refine ⟨_, rfl, ?_⟩; have n0_ := mk_ (KeepBut.blk hk (g' := gb187) (o := .cells #[.int .i64 0, .int .i64 0, .int .i64 0, .int .i64 0] 88 (0, 0)) (u_ BK187.out) NB187_0.out (by simp)); have n1_ := mk_ (Kd.R_mono (Kd.R_keep (IsS82.apart (show IsS82 w0 _ g s0_0 t189 from by repeat (first | (with_reducible first | exact HI0.out | apply IsS82.alloc | apply IsS82.drewN | apply IsS82.drew | apply IsS82.set_1 | refine IsS82.far ?_ NB0_187.out _) | exact HI0.out)) (Kd.ur_ HO192.out) (by decide)) hk (fun _ h => h.2)) (fun _ h => h.1)); have n2_ := mk_ (KeepBut.trans (by repeat (first | (with_reducible first | exact HK.out | apply KeepBut.set_ | apply keep_drewN | apply keep_drew | apply keep_alloc | refine keep_far ?_ GW187.out _) | exact HK.out)) hk (.inl rfl)); have n3_ := mk_ (hb); have n4_ := mk_ (hi); clear BK187; clear HO192; clear HK; clear HB; clear HI0; have BK187 := n0_; have HO192 := n1_; have HK := n2_; have HB := n3_; have HI0 := n4_; clear n0_ n1_ n2_ n3_ n4_; (try clear hb); (try clear hb2); (try clear hk); (try clear hi); obtain ⟨Ao112, co112, eo112⟩ := Kd.R_slice HO192.out; subst eo112; have p195 : 0 ≤ (t193 : Int) := of_decide_eq_true (by first | (with_reducible assumption) | assumption); have q195 : t193 < (y190.length : Int) := of_decide_eq_true (by first | (with_reducible assumption) | assumption); obtain ⟨ad195, e195, hx195_0⟩ := Kd.at_int (Kd.R_reads' HO192.out).2.2 t193 p195 q195; cases e195; replace p195 := eq_true p195; replace q195 := eq_true q195; clear hA_ A4) | ((with_reducible refine gate_callee (f := 46) rfl ?_); have hA_ := A7.out; refine goesL_ (some 16) rfl rfl Try.func46 (by kernel_rfl) rfl #[.pointer (some ⟨g, 0, none⟩), .int .i64 512] rfl (by (try simp only [lm_, lo_, ln_]); first | done | rfl | (simp only [List.length_drop, List.length_take]; rfl)) ?_; (with_reducible refine (spec_l20Rd_pick.calls k g s0_0 t194 512 t196 t197 w0 _ ?side1 ?side2 A7.out).mono ?_); (case side1 => repeat (first | (with_reducible first | exact HI0.out | apply IsS82.alloc | apply IsS82.drewN | apply IsS82.drew | apply IsS82.set_1 | refine IsS82.far ?_ NB0_187.out _) | exact HI0.out)); (case side2 => repeat (first | (with_reducible first | exact HB.out | apply na_ | apply nn_ | apply nw_ | refine bs_ ?_ (IsS82.ge HI0.out) | refine bs_ ?_ GE187.out) | exact HB.out)); rintro e w113 ⟨rfl, hi, hb, hk⟩; refine ⟨_, rfl, ?_⟩; have n0_ := mk_ (KeepBut.blk hk (g' := gb187) (o := .cells #[.int .i64 0, .int .i64 0, .int .i64 0, .int .i64 0] 88 (0, 0)) (u_ BK187.out) NB187_0.out (by simp)); have n1_ := mk_ (Kd.R_mono (Kd.R_keep (IsS82.apart (show IsS82 w0 _ g s0_0 t194 from by repeat (first | (with_reducible first | exact HI0.out | apply IsS82.alloc | apply IsS82.drewN | apply IsS82.drew | apply IsS82.set_1 | refine IsS82.far ?_ NB0_187.out _) | exact HI0.out)) (Kd.ur_ HO192.out) (by decide)) hk (fun _ h => h.2)) (fun _ h => h.1)); have n2_ := mk_ (KeepBut.trans (by repeat (first | (with_reducible first | exact HK.out | apply KeepBut.set_ | apply keep_drewN | apply keep_drew | apply keep_alloc | refine keep_far ?_ GW187.out _) | exact HK.out)) hk (.inl rfl)); have n3_ := mk_ (hb); have n4_ := mk_ (hi); clear BK187; clear HO192; clear HK; clear HB; clear HI0; have BK187 := n0_; have HO192 := n1_; have HK := n2_; have HB := n3_; have HI0 := n4_; clear n0_ n1_ n2_ n3_ n4_; (try clear hb); (try clear hb2); (try clear hk); (try clear hi); clear hA_ A7) | ((with_reducible refine gate_dst (N := 18) rfl ?_); refine Kd.R_lit (Kd.int .i64) _ 3 ?hg (N := 18) ?hd (xs := ([0, 4096, 4352, 4353, wrap64 (4096 + t196), 65535] : List Int)) (inner := [.int .i64 0, .int .i64 4096, .int .i64 4352, .int .i64 4353, .int .i64 (wrap64 (4096 + t196)), .int .i64 65535]) (ok := fun _ => True) (okp := fun _ => True) ?hr ?hp (fun _ hk => hk) trivial (Below.refl _ _) (Nat.le_refl _) (by simp) ?_; (case hd => rfl); (case hg => rfl); (case hr => first | (go_simp; done) | (go_simp; rfl)); (case hp => exact (Reps.one (show Kd.M (Kd.int .i64) _ _ _ 0 [.int .i64 0] from rfl) (Reps.one (show Kd.M (Kd.int .i64) _ _ _ 4096 [.int .i64 4096] from rfl) (Reps.one (show Kd.M (Kd.int .i64) _ _ _ 4352 [.int .i64 4352] from rfl) (Reps.one (show Kd.M (Kd.int .i64) _ _ _ 4353 [.int .i64 4353] from rfl) (Reps.one (show Kd.M (Kd.int .i64) _ _ _ (wrap64 (4096 + t196)) [.int .i64 (wrap64 (4096 + t196))] from rfl) (Reps.one (show Kd.M (Kd.int .i64) _ _ _ 65535 [.int .i64 65535] from rfl) (Reps.none _ _)))))))); intro v199 w114 ho115 hb hg_ hnew_; clear hg_ hnew_; (first | rw [← Ny198.out] at ho115 | (simp only [Int.reduceToNat] at ho115; rw [← Ny198.out] at ho115)); have n0_ := mk_ (Kd.R_elder' (Kd.ur_ HO192.out) (Kd.R_base ho115) hb); have n1_ := mk_ (Kd.R_lower (Kd.R_new' ho115 (Kd.R_lt (Kd.ur_ HO192.out))) (keep_size (w := w) (g := g) (row := none) (by repeat (first | (with_reducible first | exact HK.out | apply KeepBut.set_ | apply keep_drewN | apply keep_drew | apply keep_alloc | refine keep_far ?_ GW187.out _) | exact HK.out)))); have n2_ := mk_ (IsS82.below (by repeat (first | (with_reducible first | exact HI0.out | apply IsS82.alloc | apply IsS82.drewN | apply IsS82.drew | apply IsS82.set_1 | refine IsS82.far ?_ NB0_187.out _) | exact HI0.out)) hb); have n3_ := mk_ (blk_below (u_ BK187.out) hb); have n4_ := mk_ (KeepBut.trans (by repeat (first | (with_reducible first | exact HK.out | apply KeepBut.set_ | apply keep_drewN | apply keep_drew | apply keep_alloc | refine keep_far ?_ GW187.out _) | exact HK.out)) (KeepBut.of_below hb g none) (.inl rfl)); have n5_ := mk_ (below_step (by repeat (first | (with_reducible first | exact HB.out | apply na_ | apply nn_ | apply nw_ | refine bs_ ?_ (IsS82.ge HI0.out) | refine bs_ ?_ GE187.out) | exact HB.out)) hb); clear HO192; clear HI0; clear BK187; clear HK; clear HB; have HO192 := n0_; have HO200 := n1_; have HI0 := n2_; have BK187 := n3_; have HK := n4_; have HB := n5_; clear n0_ n1_ n2_ n3_ n4_ n5_; clear hb ho115) | ((with_reducible refine gate_callee (f := 46) rfl ?_); have hA_ := A8.out; refine goesL_ (some 20) rfl rfl Try.func46 (by kernel_rfl) rfl #[.pointer (some ⟨g, 0, none⟩), .int .i64 6] rfl (by (try simp only [lm_, lo_, ln_]); first | done | rfl | (simp only [List.length_drop, List.length_take]; rfl)) ?_; (with_reducible refine (spec_l20Rd_pick.calls k g s0_0 t197 6 t201 t202 w0 _ ?side1 ?side2 A8.out).mono ?_); (case side1 => repeat (first | (with_reducible first | exact HI0.out | apply IsS82.alloc | apply IsS82.drewN | apply IsS82.drew | apply IsS82.set_1 | refine IsS82.far ?_ NB0_187.out _) | exact HI0.out)); (case side2 => repeat (first | (with_reducible first | exact HB.out | apply na_ | apply nn_ | apply nw_ | refine bs_ ?_ (IsS82.ge HI0.out) | refine bs_ ?_ GE187.out) | exact HB.out)); rintro e w116 ⟨rfl, hi, hb, hk⟩; refine ⟨_, rfl, ?_⟩; have n0_ := mk_ (KeepBut.blk hk (g' := gb187) (o := .cells #[.int .i64 0, .int .i64 0, .int .i64 0, .int .i64 0] 88 (0, 0)) (u_ BK187.out) NB187_0.out (by simp)); have n1_ := mk_ (Kd.R_mono (Kd.R_keep (IsS82.apart (show IsS82 w0 _ g s0_0 t197 from by repeat (first | (with_reducible first | exact HI0.out | apply IsS82.alloc | apply IsS82.drewN | apply IsS82.drew | apply IsS82.set_1 | refine IsS82.far ?_ NB0_187.out _) | exact HI0.out)) (Kd.ur_ HO192.out) (by decide)) hk (fun _ h => h.2)) (fun _ h => h.1)); have n2_ := mk_ (Kd.R_mono (Kd.R_keep (IsS82.apart (show IsS82 w0 _ g s0_0 t197 from by repeat (first | (with_reducible first | exact HI0.out | apply IsS82.alloc | apply IsS82.drewN | apply IsS82.drew | apply IsS82.set_1 | refine IsS82.far ?_ NB0_187.out _) | exact HI0.out)) (Kd.ur_ HO200.out) (by decide)) hk (fun _ h => h.2)) (fun _ h => h.1)); have n3_ := mk_ (KeepBut.trans (by repeat (first | (with_reducible first | exact HK.out | apply KeepBut.set_ | apply keep_drewN | apply keep_drew | apply keep_alloc | refine keep_far ?_ GW187.out _) | exact HK.out)) hk (.inl rfl)); have n4_ := mk_ (hb); have n5_ := mk_ (hi); clear BK187; clear HO192; clear HO200; clear HK; clear HB; clear HI0; have BK187 := n0_; have HO192 := n1_; have HO200 := n2_; have HK := n3_; have HB := n4_; have HI0 := n5_; clear n0_ n1_ n2_ n3_ n4_ n5_; (try clear hb); (try clear hb2); (try clear hk); (try clear hi); obtain ⟨Ao117, co117, eo117⟩ := Kd.R_slice HO200.out; subst eo117; have p203 : 0 ≤ (t201 : Int) := of_decide_eq_true (by first | (with_reducible assumption) | assumption); have q203 : t201 < (y198.length : Int) := of_decide_eq_true (by first | (with_reducible assumption) | assumption); obtain ⟨ad203, e203, hx203_0⟩ := Kd.at_int (Kd.R_reads' HO200.out).2.2 t201 p203 q203; cases e203; replace p203 := eq_true p203; replace q203 := eq_true q203; clear hA_ A8))
  have n0_ := mk_ (Kd.R_drew HO192.out)
  have n1_ := mk_ (Kd.R_drew HO200.out)
  have n2_ := mk_ (blk_drew BK187.out)
  have n3_ := mk_ (IsS82.drew HI0.out)
  have n4_ := mk_ (keep_drew HK.out)
  have n5_ := mk_ (below_drew1 HB.out)
  clear HO192
  clear HO200
  clear BK187
  clear HI0
  clear HK
  clear HB
  have HO192 := n0_
  have HO200 := n1_
  have BK187 := n2_
  have HI0 := n3_
  have HK := n4_
  have HB := n5_
  clear n0_ n1_ n2_ n3_ n4_ n5_
  refine start_ (n := 17) (S := fun w' => True) (ds := []) #[F_, F_, F_, F_, F_, F_, F_, F_, F_, F_, F_, F_, F_, F_, F_, F_, F_] (by kernel_rfl) rfl rfl trivial (fun hHeld => ?_); refine with_tabW spec_l20Route.tab3 spec_l20Route.bits3 (fun HT_ HW_ => ?_)
  generalize w116.drew = w118 at HO192 HO200 BK187 HI0 HK HB hHeld ⊢
  refine pure_ (i := 0) (N := some 23) (v := ?_) (a' := ?_) #[T_, F_, F_, F_, F_, F_, F_, F_, F_, F_, F_, F_, F_, F_, F_, F_, F_] rfl rfl (any_of HT_.out (by kernel_rfl)) (fun _ _ _ h => h) (Or.inl ⟨by rfl, ?_⟩) ?_ ?_
  rotate_left
  ·intro w'
   go_simp
   with_reducible rfl
  rotate_left
  ·simp only [Act.put, la_, lz_, ls_, i64_w, i32_w]
   rfl
  refine pure_ (i := 1) (N := some 24) (v := ?_) (a' := ?_) #[T_, T_, F_, F_, F_, F_, F_, F_, F_, F_, F_, F_, F_, F_, F_, F_, F_] rfl rfl (any_of HT_.out (by kernel_rfl)) (fun _ _ _ h => h) (Or.inl ⟨by rfl, ?_⟩) ?_ ?_
  rotate_left
  ·intro w'
   go_simp
   with_reducible rfl
  rotate_left
  ·simp only [Act.put, la_, lz_, ls_, i64_w, i32_w]
   rfl
  refine pure_ (i := 2) (N := some 25) (v := ?_) (a' := ?_) #[T_, T_, T_, F_, F_, F_, F_, F_, F_, F_, F_, F_, F_, F_, F_, F_, F_] rfl rfl (any_of HT_.out (by kernel_rfl)) (fun _ _ _ h => h) (Or.inl ⟨by rfl, ?_⟩) ?_ ?_
  rotate_left
  ·intro w'
   go_simp
   with_reducible rfl
  rotate_left
  ·simp only [Act.put, la_, lz_, ls_, i64_w, i32_w]
   rfl
  refine pure_ (i := 3) (N := some 26) (v := ?_) (a' := ?_) #[T_, T_, T_, T_, F_, F_, F_, F_, F_, F_, F_, F_, F_, F_, F_, F_, F_] rfl rfl (any_of HT_.out (by kernel_rfl)) (fun _ _ _ h => h) (Or.inl ⟨by rfl, ?_⟩) ?_ ?_
  rotate_left
  ·intro w'
   go_simp
   with_reducible rfl
  rotate_left
  ·simp only [Act.put, la_, lz_, ls_, i64_w, i32_w]
   rfl
  refine pure_ (i := 4) (N := some 27) (v := ?_) (a' := ?_) #[T_, T_, T_, T_, T_, F_, F_, F_, F_, F_, F_, F_, F_, F_, F_, F_, F_] rfl rfl (any_of HT_.out (by kernel_rfl)) (fun _ _ _ h => h) (Or.inl ⟨by rfl, ?_⟩) ?_ ?_
  rotate_left
  ·intro w'
   go_simp
   with_reducible rfl
  rotate_left
  ·simp only [Act.put, la_, lz_, ls_, i64_w, i32_w]
   rfl
  refine pure_ (i := 5) (N := some 28) (v := ?_) (a' := ?_) #[T_, T_, T_, T_, T_, T_, F_, F_, F_, F_, F_, F_, F_, F_, F_, F_, F_] rfl rfl (any_of HT_.out (by kernel_rfl)) (fun _ _ _ h => h) (Or.inl ⟨by rfl, ?_⟩) ?_ ?_
  rotate_left
  ·intro w'
   go_simp
   with_reducible rfl
  rotate_left
  ·simp only [Act.put, la_, lz_, ls_, i64_w, i32_w]
   rfl
  refine pure_ (i := 6) (N := some 29) (v := ?_) (a' := ?_) #[T_, T_, T_, T_, T_, T_, T_, F_, F_, F_, F_, F_, F_, F_, F_, F_, F_] rfl rfl (any_of HT_.out (by kernel_rfl)) (fun _ _ _ h => h) (Or.inl ⟨by rfl, ?_⟩) ?_ ?_
  rotate_left
  ·intro w'
   go_simp
   with_reducible rfl
  rotate_left
  ·simp only [Act.put, la_, lz_, ls_, i64_w, i32_w]
   rfl
  refine pure_ (i := 7) (N := some 30) (v := ?_) (a' := ?_) #[T_, T_, T_, T_, T_, T_, T_, T_, F_, F_, F_, F_, F_, F_, F_, F_, F_] rfl rfl (any_of HT_.out (by kernel_rfl)) (fun _ _ _ h => h) (Or.inl ⟨by rfl, ?_⟩) ?_ ?_
  rotate_left
  ·intro w'
   go_simp
   with_reducible rfl
  rotate_left
  ·simp only [Act.put, la_, lz_, ls_, i64_w, i32_w]
   rfl
  refine pure_ (i := 8) (N := some 31) (v := ?_) (a' := ?_) #[T_, T_, T_, T_, T_, T_, T_, T_, T_, F_, F_, F_, F_, F_, F_, F_, F_] rfl rfl (any_of HT_.out (by kernel_rfl)) (fun _ _ _ h => h) (Or.inl ⟨by rfl, ?_⟩) ?_ ?_
  rotate_left
  ·intro w'
   go_simp
   with_reducible rfl
  rotate_left
  ·simp only [Act.put, la_, lz_, ls_, i64_w, i32_w]
   rfl
  refine pure_ (i := 10) (N := some 33) (v := ?_) (a' := ?_) #[T_, T_, T_, T_, T_, T_, T_, T_, T_, F_, T_, F_, F_, F_, F_, F_, F_] rfl rfl (any_of HT_.out (by kernel_rfl)) (fun _ _ _ h => h) (Or.inl ⟨by rfl, ?_⟩) ?_ ?_
  rotate_left
  ·intro w'
   go_simp
   with_reducible rfl
  rotate_left
  ·simp only [Act.put, la_, lz_, ls_, i64_w, i32_w]
   rfl
  refine join_ (σ := Nat) 1 #[T_, T_, T_, T_, T_, T_, T_, T_, T_, T_, T_, T_, T_, T_, T_, T_, F_] (fun s_ => [(32, .int .i64 t204), (34, .int .i64 t206), (7, .pointer (some ⟨s_, 0, none⟩)), (35, .int .i64 (wrap64 (t206 * 6))), (36, .int .i64 (wrap64 (4 + (wrap64 (t206 * 6))))), (37, .agg #[.int .i64 (wrap64 ((rd y198 t201) - (Int.tmod (rd y198 t201) (ji13)))), .int .i64 (rd y190 t193), .int .i64 t204, .int .i64 (wrap64 (4 + (wrap64 (t206 * 6))))])]) (fun s_ w' => (Kd.R (Kd.int .i64) 3 w' w.heap.size (fun k_ => some k_ ≠ (.slice (some ad203) y198.length co117 : Value).ownBlock) (.slice (some ad195) y190.length co112) y190) ∧ (Kd.R (Kd.int .i64) 3 w' w.heap.size (fun k_ => some k_ ≠ (.slice (some ad195) y190.length co112 : Value).ownBlock) (.slice (some ad203) y198.length co117) y198) ∧ (w'.heap[gb187]? = some (.cells #[.int .i64 0, .int .i64 0, .int .i64 0, .int .i64 0] 88 (0, 0))) ∧ (w'.heap[s_]? = some (.cells #[.int .i64 0, .int .i64 0, .int .i64 0, .int .i64 0] 88 (0, 0))) ∧ (w.heap.size ≤ s_) ∧ (w0.heap.size ≤ s_) ∧ (g ≠ s_) ∧ (s_ ≠ g) ∧ (gb187 ≠ s_) ∧ (s_ ≠ gb187) ∧ (IsS82 w0 w' g s0_0 t207) ∧ (KeepBut w w' g none) ∧ (Below w0.heap.size w0 w')) ?_ ?_
  rotate_left
  ·intro hCont
   refine two_ (i := 9) (j := 15) (Ni := some 32) (Nj := some 7) #[T_, T_, T_, T_, T_, T_, T_, T_, T_, T_, T_, F_, F_, F_, F_, F_, F_] #[T_, T_, T_, T_, T_, T_, T_, T_, T_, F_, T_, F_, F_, F_, F_, T_, F_] rfl rfl rfl rfl (two_of HT_.out (by kernel_rfl)) (by decide) (by decide) (fun K hK => ?_) (fun K hK => ?_)
   ·skip
    refine goes_ Try.func46 (by kernel_rfl) rfl #[.pointer (some ⟨g, 0, none⟩), .int .i64 3] (by rfl) rfl rfl (by (try simp only [lm_, lo_, ln_]); first | done | rfl | (simp only [List.length_drop, List.length_take]; rfl)) ?_
    with_reducible refine (spec_l20Rd_pick.calls k g s0_0 t202 3 t204 t205 w0 _ ?side1 ?side2 A15.out).mono ?_
    (case side1 => repeat (first | (with_reducible first | exact HI0.out | apply IsS82.alloc | apply IsS82.drewN | apply IsS82.drew | apply IsS82.set_1 | refine IsS82.far ?_ NB0_187.out _) | exact HI0.out))
    (case side2 => repeat (first | (with_reducible first | exact HB.out | apply na_ | apply nn_ | apply nw_ | refine bs_ ?_ (IsS82.ge HI0.out) | refine bs_ ?_ GE187.out) | exact HB.out))
    rintro e w119 ⟨rfl, hi, hb, hk⟩
    refine ⟨_, rfl, ?_⟩
    have n0_ := mk_ (KeepBut.blk hk (g' := gb187) (o := .cells #[.int .i64 0, .int .i64 0, .int .i64 0, .int .i64 0] 88 (0, 0)) (u_ BK187.out) NB187_0.out (by simp))
    have n1_ := mk_ (Kd.R_mono (Kd.R_keep (IsS82.apart (show IsS82 w0 _ g s0_0 t202 from by repeat (first | (with_reducible first | exact HI0.out | apply IsS82.alloc | apply IsS82.drewN | apply IsS82.drew | apply IsS82.set_1 | refine IsS82.far ?_ NB0_187.out _) | exact HI0.out)) (Kd.ur_ HO192.out) (by decide)) hk (fun _ h => h.2)) (fun _ h => h.1))
    have n2_ := mk_ (Kd.R_mono (Kd.R_keep (IsS82.apart (show IsS82 w0 _ g s0_0 t202 from by repeat (first | (with_reducible first | exact HI0.out | apply IsS82.alloc | apply IsS82.drewN | apply IsS82.drew | apply IsS82.set_1 | refine IsS82.far ?_ NB0_187.out _) | exact HI0.out)) (Kd.ur_ HO200.out) (by decide)) hk (fun _ h => h.2)) (fun _ h => h.1))
    have n3_ := mk_ (KeepBut.trans (by repeat (first | (with_reducible first | exact HK.out | apply KeepBut.set_ | apply keep_drewN | apply keep_drew | apply keep_alloc | refine keep_far ?_ GW187.out _) | exact HK.out)) hk (.inl rfl))
    have n4_ := mk_ (hb)
    have n5_ := mk_ (hi)
    clear BK187
    clear HO192
    clear HO200
    clear HK
    clear HB
    clear HI0
    have BK187 := n0_
    have HO192 := n1_
    have HO200 := n2_
    have HK := n3_
    have HB := n4_
    have HI0 := n5_
    clear n0_ n1_ n2_ n3_ n4_ n5_
    (try clear hb)
    (try clear hb2)
    (try clear hk)
    (try clear hi)
    refine hK.out _ _ trivial (fun hHeld => ?_)
    clear hK K
    refine norm_ (a' := ?_) ?_ ?_
    rotate_left
    ·show Act.put _ (some 32) _ = _
     simp only [Act.put, la_, lz_, ls_, i64_w, i32_w]
     rfl
    refine two_ (i := 11) (j := 15) (Ni := some 34) (Nj := some 7) #[T_, T_, T_, T_, T_, T_, T_, T_, T_, T_, T_, T_, F_, F_, F_, F_, F_] #[T_, T_, T_, T_, T_, T_, T_, T_, T_, T_, T_, F_, F_, F_, F_, T_, F_] rfl rfl rfl rfl (two_of HT_.out (by kernel_rfl)) (by decide) (by decide) (fun K hK => ?_) (fun K hK => ?_)
    ·skip
     refine goes_ Try.func46 (by kernel_rfl) rfl #[.pointer (some ⟨g, 0, none⟩), .int .i64 3] (by rfl) rfl rfl (by (try simp only [lm_, lo_, ln_]); first | done | rfl | (simp only [List.length_drop, List.length_take]; rfl)) ?_
     with_reducible refine (spec_l20Rd_pick.calls k g s0_0 t205 3 t206 t207 w0 _ ?side1 ?side2 A16.out).mono ?_
     (case side1 => repeat (first | (with_reducible first | exact HI0.out | apply IsS82.alloc | apply IsS82.drewN | apply IsS82.drew | apply IsS82.set_1 | refine IsS82.far ?_ NB0_187.out _) | exact HI0.out))
     (case side2 => repeat (first | (with_reducible first | exact HB.out | apply na_ | apply nn_ | apply nw_ | refine bs_ ?_ (IsS82.ge HI0.out) | refine bs_ ?_ GE187.out) | exact HB.out))
     rintro e w120 ⟨rfl, hi, hb, hk⟩
     refine ⟨_, rfl, ?_⟩
     have n0_ := mk_ (KeepBut.blk hk (g' := gb187) (o := .cells #[.int .i64 0, .int .i64 0, .int .i64 0, .int .i64 0] 88 (0, 0)) (u_ BK187.out) NB187_0.out (by simp))
     have n1_ := mk_ (Kd.R_mono (Kd.R_keep (IsS82.apart (show IsS82 w0 _ g s0_0 t205 from by repeat (first | (with_reducible first | exact HI0.out | apply IsS82.alloc | apply IsS82.drewN | apply IsS82.drew | apply IsS82.set_1 | refine IsS82.far ?_ NB0_187.out _) | exact HI0.out)) (Kd.ur_ HO192.out) (by decide)) hk (fun _ h => h.2)) (fun _ h => h.1))
     have n2_ := mk_ (Kd.R_mono (Kd.R_keep (IsS82.apart (show IsS82 w0 _ g s0_0 t205 from by repeat (first | (with_reducible first | exact HI0.out | apply IsS82.alloc | apply IsS82.drewN | apply IsS82.drew | apply IsS82.set_1 | refine IsS82.far ?_ NB0_187.out _) | exact HI0.out)) (Kd.ur_ HO200.out) (by decide)) hk (fun _ h => h.2)) (fun _ h => h.1))
     have n3_ := mk_ (KeepBut.trans (by repeat (first | (with_reducible first | exact HK.out | apply KeepBut.set_ | apply keep_drewN | apply keep_drew | apply keep_alloc | refine keep_far ?_ GW187.out _) | exact HK.out)) hk (.inl rfl))
     have n4_ := mk_ (hb)
     have n5_ := mk_ (hi)
     clear BK187
     clear HO192
     clear HO200
     clear HK
     clear HB
     clear HI0
     have BK187 := n0_
     have HO192 := n1_
     have HO200 := n2_
     have HK := n3_
     have HB := n4_
     have HI0 := n5_
     clear n0_ n1_ n2_ n3_ n4_ n5_
     (try clear hb)
     (try clear hb2)
     (try clear hk)
     (try clear hi)
     refine hK.out _ _ trivial (fun hHeld => ?_)
     clear hK K
     refine norm_ (a' := ?_) ?_ ?_
     rotate_left
     ·show Act.put _ (some 34) _ = _
      simp only [Act.put, la_, lz_, ls_, i64_w, i32_w]
      rfl
     refine pure_ (i := 12) (N := some 35) (v := ?_) (a' := ?_) #[T_, T_, T_, T_, T_, T_, T_, T_, T_, T_, T_, T_, T_, F_, F_, F_, F_] rfl rfl (any_of HT_.out (by kernel_rfl)) (fun _ _ _ h => h) (Or.inl ⟨by rfl, ?_⟩) ?_ ?_
     rotate_left
     ·intro w'
      go_simp
      with_reducible rfl
     rotate_left
     ·simp only [Act.put, la_, lz_, ls_, i64_w, i32_w]
      rfl
     refine pure_ (i := 13) (N := some 36) (v := ?_) (a' := ?_) #[T_, T_, T_, T_, T_, T_, T_, T_, T_, T_, T_, T_, T_, T_, F_, F_, F_] rfl rfl (any_of HT_.out (by kernel_rfl)) (fun _ _ _ h => h) (Or.inl ⟨by rfl, ?_⟩) ?_ ?_
     rotate_left
     ·intro w'
      go_simp
      with_reducible rfl
     rotate_left
     ·simp only [Act.put, la_, lz_, ls_, i64_w, i32_w]
      rfl
     refine pure_ (i := 14) (N := some 37) (v := ?_) (a' := ?_) #[T_, T_, T_, T_, T_, T_, T_, T_, T_, T_, T_, T_, T_, T_, T_, F_, F_] rfl rfl (any_of HT_.out (by kernel_rfl)) (fun _ _ _ h => h) (Or.inl ⟨by rfl, ?_⟩) ?_ ?_
     rotate_left
     ·intro w'
      go_simp
      with_reducible rfl
     rotate_left
     ·simp only [Act.put, la_, lz_, ls_, i64_w, i32_w]
      rfl
     refine one_ (i := 15) (N := some 7) #[T_, T_, T_, T_, T_, T_, T_, T_, T_, T_, T_, T_, T_, T_, T_, T_, F_] rfl rfl (one_of HT_.out (by kernel_rfl)) (by decide) (fun K hK => ?_)
     refine box_step ?hg (N := 7) ?hd (cs := #[.int .i64 0, .int .i64 0, .int .i64 0, .int .i64 0]) (t := 88) ?hr ?_; (case hd => rfl); (case hg => rfl); (case hr => first | (go_simp; done) | (go_simp; rfl))
     intro gb208 hg w121 hbox hb
     have n0_ := mk_ (Kd.R_below (Kd.ur_ HO192.out) hb)
     have n1_ := mk_ (Kd.R_below (Kd.ur_ HO200.out) hb)
     have n2_ := mk_ (IsS82.below (by repeat (first | (with_reducible first | exact HI0.out | apply IsS82.alloc | apply IsS82.drewN | apply IsS82.drew | apply IsS82.set_1 | refine IsS82.far ?_ NB0_187.out _) | exact HI0.out)) hb)
     have n3_ := mk_ (blk_below (u_ BK187.out) hb)
     have n4_ := mk_ (KeepBut.trans (by repeat (first | (with_reducible first | exact HK.out | apply KeepBut.set_ | apply keep_drewN | apply keep_drew | apply keep_alloc | refine keep_far ?_ GW187.out _) | exact HK.out)) (KeepBut.of_below hb g none) (.inl rfl))
     have n5_ := mk_ (below_step (by repeat (first | (with_reducible first | exact HB.out | apply na_ | apply nn_ | apply nw_ | refine bs_ ?_ (IsS82.ge HI0.out) | refine bs_ ?_ GE187.out) | exact HB.out)) hb)
     have n6_ := mk_ (hbox)
     have n7_ := mk_ ((by rw [hg]; exact (keep_size (w := w) (g := g) (row := none) (by repeat (first | (with_reducible first | exact HK.out | apply KeepBut.set_ | apply keep_drewN | apply keep_drew | apply keep_alloc | refine keep_far ?_ GW187.out _) | exact HK.out))) : w.heap.size ≤ gb208))
     have n8_ := mk_ ((Nat.le_trans HW0.out (by rw [hg]; exact (keep_size (w := w) (g := g) (row := none) (by repeat (first | (with_reducible first | exact HK.out | apply KeepBut.set_ | apply keep_drewN | apply keep_drew | apply keep_alloc | refine keep_far ?_ GW187.out _) | exact HK.out))) : w.heap.size ≤ gb208) : w0.heap.size ≤ gb208))
     have n9_ := mk_ ((by rw [hg]; exact Nat.ne_of_lt (blk_lt (u_ BK187.out)) : gb187 ≠ gb208))
     have n10_ := mk_ ((by rw [hg]; exact Nat.ne_of_gt (blk_lt (u_ BK187.out)) : gb208 ≠ gb187))
     have n11_ := mk_ ((by rw [hg]; exact Nat.ne_of_lt (IsS82.lt (show IsS82 w0 _ g s0_0 t207 from by repeat (first | (with_reducible first | exact HI0.out | apply IsS82.alloc | apply IsS82.drewN | apply IsS82.drew | apply IsS82.set_1 | refine IsS82.far ?_ NB0_187.out _) | exact HI0.out))) : g ≠ gb208))
     have n12_ := mk_ ((by rw [hg]; exact Nat.ne_of_gt (IsS82.lt (show IsS82 w0 _ g s0_0 t207 from by repeat (first | (with_reducible first | exact HI0.out | apply IsS82.alloc | apply IsS82.drewN | apply IsS82.drew | apply IsS82.set_1 | refine IsS82.far ?_ NB0_187.out _) | exact HI0.out))) : gb208 ≠ g))
     clear HO192
     clear HO200
     clear HI0
     clear BK187
     clear HK
     clear HB
     have HO192 := n0_
     have HO200 := n1_
     have HI0 := n2_
     have BK187 := n3_
     have HK := n4_
     have HB := n5_
     have BK208 := n6_
     have GW208 := n7_
     have GE208 := ge_ n8_.out
     have NB187_208 := nq_ n9_.out
     have NB208_187 := nq_ n10_.out
     have NB0_208 := nq_ n11_.out
     have NB208_0 := nq_ n12_.out
     clear n0_ n1_ n2_ n3_ n4_ n5_ n6_ n7_ n8_ n9_ n10_ n11_ n12_
     clear hb hbox hg
     refine hK.out _ _ trivial (fun hHeld => ?_)
     clear hK K
     refine norm_ (a' := ?_) ?_ ?_
     rotate_left
     ·show Act.put _ (some 7) _ = _
      simp only [Act.put, la_, lz_, ls_, i64_w, i32_w]
      rfl
     exact norm_ (by simp only [putAll, Act.put, la_, lz_, ls_]) (hCont (gb208) _ ⟨(by (with_reducible repeat (first | apply Kd.R_alloc | apply Kd.R_drewN | apply Kd.R_drew)); exact Kd.R_mono HO192.out (fun _ hk => hk.2)), (by (with_reducible repeat (first | apply Kd.R_alloc | apply Kd.R_drewN | apply Kd.R_drew)); exact Kd.R_mono HO200.out (fun _ hk => hk.2)), (u_ BK187.out), (u_ BK208.out), GW208.out, GE208.out, NB0_208.out, NB208_0.out, NB187_208.out, NB208_187.out, (by repeat (first | (with_reducible first | exact HI0.out | apply IsS82.alloc | apply IsS82.drewN | apply IsS82.drew | apply IsS82.set_1 | refine IsS82.far ?_ NB0_187.out _ | refine IsS82.far ?_ NB0_208.out _) | exact HI0.out)), (by repeat (first | (with_reducible first | exact HK.out | apply KeepBut.set_ | apply keep_drewN | apply keep_drew | apply keep_alloc | refine keep_far ?_ GW187.out _ | refine keep_far ?_ GW208.out _) | exact HK.out)), (by repeat (first | (with_reducible first | exact HB.out | apply na_ | apply nn_ | apply nw_ | refine bs_ ?_ (IsS82.ge HI0.out) | refine bs_ ?_ GE187.out | refine bs_ ?_ GE208.out) | exact HB.out))⟩)
    skip
    refine box_step ?hg (N := 7) ?hd (cs := #[.int .i64 0, .int .i64 0, .int .i64 0, .int .i64 0]) (t := 88) ?hr ?_; (case hd => rfl); (case hg => rfl); (case hr => first | (go_simp; done) | (go_simp; rfl))
    intro gb208 hg w120 hbox hb
    have n0_ := mk_ (Kd.R_below (Kd.ur_ HO192.out) hb)
    have n1_ := mk_ (Kd.R_below (Kd.ur_ HO200.out) hb)
    have n2_ := mk_ (IsS82.below (by repeat (first | (with_reducible first | exact HI0.out | apply IsS82.alloc | apply IsS82.drewN | apply IsS82.drew | apply IsS82.set_1 | refine IsS82.far ?_ NB0_187.out _) | exact HI0.out)) hb)
    have n3_ := mk_ (blk_below (u_ BK187.out) hb)
    have n4_ := mk_ (KeepBut.trans (by repeat (first | (with_reducible first | exact HK.out | apply KeepBut.set_ | apply keep_drewN | apply keep_drew | apply keep_alloc | refine keep_far ?_ GW187.out _) | exact HK.out)) (KeepBut.of_below hb g none) (.inl rfl))
    have n5_ := mk_ (below_step (by repeat (first | (with_reducible first | exact HB.out | apply na_ | apply nn_ | apply nw_ | refine bs_ ?_ (IsS82.ge HI0.out) | refine bs_ ?_ GE187.out) | exact HB.out)) hb)
    have n6_ := mk_ (hbox)
    have n7_ := mk_ ((by rw [hg]; exact (keep_size (w := w) (g := g) (row := none) (by repeat (first | (with_reducible first | exact HK.out | apply KeepBut.set_ | apply keep_drewN | apply keep_drew | apply keep_alloc | refine keep_far ?_ GW187.out _) | exact HK.out))) : w.heap.size ≤ gb208))
    have n8_ := mk_ ((Nat.le_trans HW0.out (by rw [hg]; exact (keep_size (w := w) (g := g) (row := none) (by repeat (first | (with_reducible first | exact HK.out | apply KeepBut.set_ | apply keep_drewN | apply keep_drew | apply keep_alloc | refine keep_far ?_ GW187.out _) | exact HK.out))) : w.heap.size ≤ gb208) : w0.heap.size ≤ gb208))
    have n9_ := mk_ ((by rw [hg]; exact Nat.ne_of_lt (blk_lt (u_ BK187.out)) : gb187 ≠ gb208))
    have n10_ := mk_ ((by rw [hg]; exact Nat.ne_of_gt (blk_lt (u_ BK187.out)) : gb208 ≠ gb187))
    have n11_ := mk_ ((by rw [hg]; exact Nat.ne_of_lt (IsS82.lt (show IsS82 w0 _ g s0_0 t205 from by repeat (first | (with_reducible first | exact HI0.out | apply IsS82.alloc | apply IsS82.drewN | apply IsS82.drew | apply IsS82.set_1 | refine IsS82.far ?_ NB0_187.out _) | exact HI0.out))) : g ≠ gb208))
    have n12_ := mk_ ((by rw [hg]; exact Nat.ne_of_gt (IsS82.lt (show IsS82 w0 _ g s0_0 t205 from by repeat (first | (with_reducible first | exact HI0.out | apply IsS82.alloc | apply IsS82.drewN | apply IsS82.drew | apply IsS82.set_1 | refine IsS82.far ?_ NB0_187.out _) | exact HI0.out))) : gb208 ≠ g))
    clear HO192
    clear HO200
    clear HI0
    clear BK187
    clear HK
    clear HB
    have HO192 := n0_
    have HO200 := n1_
    have HI0 := n2_
    have BK187 := n3_
    have HK := n4_
    have HB := n5_
    have BK208 := n6_
    have GW208 := n7_
    have GE208 := ge_ n8_.out
    have NB187_208 := nq_ n9_.out
    have NB208_187 := nq_ n10_.out
    have NB0_208 := nq_ n11_.out
    have NB208_0 := nq_ n12_.out
    clear n0_ n1_ n2_ n3_ n4_ n5_ n6_ n7_ n8_ n9_ n10_ n11_ n12_
    clear hb hbox hg
    refine hK.out _ _ trivial (fun hHeld => ?_)
    clear hK K
    refine norm_ (a' := ?_) ?_ ?_
    rotate_left
    ·show Act.put _ (some 7) _ = _
     simp only [Act.put, la_, lz_, ls_, i64_w, i32_w]
     rfl
    refine one_ (i := 11) (N := some 34) #[T_, T_, T_, T_, T_, T_, T_, T_, T_, T_, T_, T_, F_, F_, F_, T_, F_] rfl rfl (one_of HT_.out (by kernel_rfl)) (by decide) (fun K hK => ?_)
    refine goes_ Try.func46 (by kernel_rfl) rfl #[.pointer (some ⟨g, 0, none⟩), .int .i64 3] (by rfl) rfl rfl (by (try simp only [lm_, lo_, ln_]); first | done | rfl | (simp only [List.length_drop, List.length_take]; rfl)) ?_
    with_reducible refine (spec_l20Rd_pick.calls k g s0_0 t205 3 t206 t207 w0 _ ?side1 ?side2 A16.out).mono ?_
    (case side1 => repeat (first | (with_reducible first | exact HI0.out | apply IsS82.alloc | apply IsS82.drewN | apply IsS82.drew | apply IsS82.set_1 | refine IsS82.far ?_ NB0_187.out _ | refine IsS82.far ?_ NB0_208.out _) | exact HI0.out))
    (case side2 => repeat (first | (with_reducible first | exact HB.out | apply na_ | apply nn_ | apply nw_ | refine bs_ ?_ (IsS82.ge HI0.out) | refine bs_ ?_ GE187.out | refine bs_ ?_ GE208.out) | exact HB.out))
    rintro e w121 ⟨rfl, hi, hb, hk⟩
    refine ⟨_, rfl, ?_⟩
    have n0_ := mk_ (KeepBut.blk hk (g' := gb187) (o := .cells #[.int .i64 0, .int .i64 0, .int .i64 0, .int .i64 0] 88 (0, 0)) (u_ BK187.out) NB187_0.out (by simp))
    have n1_ := mk_ (Kd.R_mono (Kd.R_keep (IsS82.apart (show IsS82 w0 _ g s0_0 t205 from by repeat (first | (with_reducible first | exact HI0.out | apply IsS82.alloc | apply IsS82.drewN | apply IsS82.drew | apply IsS82.set_1 | refine IsS82.far ?_ NB0_187.out _ | refine IsS82.far ?_ NB0_208.out _) | exact HI0.out)) (Kd.ur_ HO192.out) (by decide)) hk (fun _ h => h.2)) (fun _ h => h.1))
    have n2_ := mk_ (Kd.R_mono (Kd.R_keep (IsS82.apart (show IsS82 w0 _ g s0_0 t205 from by repeat (first | (with_reducible first | exact HI0.out | apply IsS82.alloc | apply IsS82.drewN | apply IsS82.drew | apply IsS82.set_1 | refine IsS82.far ?_ NB0_187.out _ | refine IsS82.far ?_ NB0_208.out _) | exact HI0.out)) (Kd.ur_ HO200.out) (by decide)) hk (fun _ h => h.2)) (fun _ h => h.1))
    have n3_ := mk_ (KeepBut.blk hk (g' := gb208) (o := .cells #[.int .i64 0, .int .i64 0, .int .i64 0, .int .i64 0] 88 (0, 0)) (u_ BK208.out) NB208_0.out (by simp))
    have n4_ := mk_ (KeepBut.trans (by repeat (first | (with_reducible first | exact HK.out | apply KeepBut.set_ | apply keep_drewN | apply keep_drew | apply keep_alloc | refine keep_far ?_ GW187.out _ | refine keep_far ?_ GW208.out _) | exact HK.out)) hk (.inl rfl))
    have n5_ := mk_ (hb)
    have n6_ := mk_ (hi)
    clear BK187
    clear HO192
    clear HO200
    clear BK208
    clear HK
    clear HB
    clear HI0
    have BK187 := n0_
    have HO192 := n1_
    have HO200 := n2_
    have BK208 := n3_
    have HK := n4_
    have HB := n5_
    have HI0 := n6_
    clear n0_ n1_ n2_ n3_ n4_ n5_ n6_
    (try clear hb)
    (try clear hb2)
    (try clear hk)
    (try clear hi)
    refine hK.out _ _ trivial (fun hHeld => ?_)
    clear hK K
    refine norm_ (a' := ?_) ?_ ?_
    rotate_left
    ·show Act.put _ (some 34) _ = _
     simp only [Act.put, la_, lz_, ls_, i64_w, i32_w]
     rfl
    refine pure_ (i := 12) (N := some 35) (v := ?_) (a' := ?_) #[T_, T_, T_, T_, T_, T_, T_, T_, T_, T_, T_, T_, T_, F_, F_, T_, F_] rfl rfl (any_of HT_.out (by kernel_rfl)) (fun _ _ _ h => h) (Or.inl ⟨by rfl, ?_⟩) ?_ ?_
    rotate_left
    ·intro w'
     go_simp
     with_reducible rfl
    rotate_left
    ·simp only [Act.put, la_, lz_, ls_, i64_w, i32_w]
     rfl
    refine pure_ (i := 13) (N := some 36) (v := ?_) (a' := ?_) #[T_, T_, T_, T_, T_, T_, T_, T_, T_, T_, T_, T_, T_, T_, F_, T_, F_] rfl rfl (any_of HT_.out (by kernel_rfl)) (fun _ _ _ h => h) (Or.inl ⟨by rfl, ?_⟩) ?_ ?_
    rotate_left
    ·intro w'
     go_simp
     with_reducible rfl
    rotate_left
    ·simp only [Act.put, la_, lz_, ls_, i64_w, i32_w]
     rfl
    refine pure_ (i := 14) (N := some 37) (v := ?_) (a' := ?_) #[T_, T_, T_, T_, T_, T_, T_, T_, T_, T_, T_, T_, T_, T_, T_, T_, F_] rfl rfl (any_of HT_.out (by kernel_rfl)) (fun _ _ _ h => h) (Or.inl ⟨by rfl, ?_⟩) ?_ ?_
    rotate_left
    ·intro w'
     go_simp
     with_reducible rfl
    rotate_left
    ·simp only [Act.put, la_, lz_, ls_, i64_w, i32_w]
     rfl
    exact norm_ (by simp only [putAll, Act.put, la_, lz_, ls_]) (hCont (gb208) _ ⟨(by (with_reducible repeat (first | apply Kd.R_alloc | apply Kd.R_drewN | apply Kd.R_drew)); exact Kd.R_mono HO192.out (fun _ hk => hk.2)), (by (with_reducible repeat (first | apply Kd.R_alloc | apply Kd.R_drewN | apply Kd.R_drew)); exact Kd.R_mono HO200.out (fun _ hk => hk.2)), (u_ BK187.out), (u_ BK208.out), GW208.out, GE208.out, NB0_208.out, NB208_0.out, NB187_208.out, NB208_187.out, (by repeat (first | (with_reducible first | exact HI0.out | apply IsS82.alloc | apply IsS82.drewN | apply IsS82.drew | apply IsS82.set_1 | refine IsS82.far ?_ NB0_187.out _ | refine IsS82.far ?_ NB0_208.out _) | exact HI0.out)), (by repeat (first | (with_reducible first | exact HK.out | apply KeepBut.set_ | apply keep_drewN | apply keep_drew | apply keep_alloc | refine keep_far ?_ GW187.out _ | refine keep_far ?_ GW208.out _) | exact HK.out)), (by repeat (first | (with_reducible first | exact HB.out | apply na_ | apply nn_ | apply nw_ | refine bs_ ?_ (IsS82.ge HI0.out) | refine bs_ ?_ GE187.out | refine bs_ ?_ GE208.out) | exact HB.out))⟩)
   skip
   refine box_step ?hg (N := 7) ?hd (cs := #[.int .i64 0, .int .i64 0, .int .i64 0, .int .i64 0]) (t := 88) ?hr ?_; (case hd => rfl); (case hg => rfl); (case hr => first | (go_simp; done) | (go_simp; rfl))
   intro gb208 hg w119 hbox hb
   have n0_ := mk_ (Kd.R_below (Kd.ur_ HO192.out) hb)
   have n1_ := mk_ (Kd.R_below (Kd.ur_ HO200.out) hb)
   have n2_ := mk_ (IsS82.below (by repeat (first | (with_reducible first | exact HI0.out | apply IsS82.alloc | apply IsS82.drewN | apply IsS82.drew | apply IsS82.set_1 | refine IsS82.far ?_ NB0_187.out _) | exact HI0.out)) hb)
   have n3_ := mk_ (blk_below (u_ BK187.out) hb)
   have n4_ := mk_ (KeepBut.trans (by repeat (first | (with_reducible first | exact HK.out | apply KeepBut.set_ | apply keep_drewN | apply keep_drew | apply keep_alloc | refine keep_far ?_ GW187.out _) | exact HK.out)) (KeepBut.of_below hb g none) (.inl rfl))
   have n5_ := mk_ (below_step (by repeat (first | (with_reducible first | exact HB.out | apply na_ | apply nn_ | apply nw_ | refine bs_ ?_ (IsS82.ge HI0.out) | refine bs_ ?_ GE187.out) | exact HB.out)) hb)
   have n6_ := mk_ (hbox)
   have n7_ := mk_ ((by rw [hg]; exact (keep_size (w := w) (g := g) (row := none) (by repeat (first | (with_reducible first | exact HK.out | apply KeepBut.set_ | apply keep_drewN | apply keep_drew | apply keep_alloc | refine keep_far ?_ GW187.out _) | exact HK.out))) : w.heap.size ≤ gb208))
   have n8_ := mk_ ((Nat.le_trans HW0.out (by rw [hg]; exact (keep_size (w := w) (g := g) (row := none) (by repeat (first | (with_reducible first | exact HK.out | apply KeepBut.set_ | apply keep_drewN | apply keep_drew | apply keep_alloc | refine keep_far ?_ GW187.out _) | exact HK.out))) : w.heap.size ≤ gb208) : w0.heap.size ≤ gb208))
   have n9_ := mk_ ((by rw [hg]; exact Nat.ne_of_lt (blk_lt (u_ BK187.out)) : gb187 ≠ gb208))
   have n10_ := mk_ ((by rw [hg]; exact Nat.ne_of_gt (blk_lt (u_ BK187.out)) : gb208 ≠ gb187))
   have n11_ := mk_ ((by rw [hg]; exact Nat.ne_of_lt (IsS82.lt (show IsS82 w0 _ g s0_0 t202 from by repeat (first | (with_reducible first | exact HI0.out | apply IsS82.alloc | apply IsS82.drewN | apply IsS82.drew | apply IsS82.set_1 | refine IsS82.far ?_ NB0_187.out _) | exact HI0.out))) : g ≠ gb208))
   have n12_ := mk_ ((by rw [hg]; exact Nat.ne_of_gt (IsS82.lt (show IsS82 w0 _ g s0_0 t202 from by repeat (first | (with_reducible first | exact HI0.out | apply IsS82.alloc | apply IsS82.drewN | apply IsS82.drew | apply IsS82.set_1 | refine IsS82.far ?_ NB0_187.out _) | exact HI0.out))) : gb208 ≠ g))
   clear HO192
   clear HO200
   clear HI0
   clear BK187
   clear HK
   clear HB
   have HO192 := n0_
   have HO200 := n1_
   have HI0 := n2_
   have BK187 := n3_
   have HK := n4_
   have HB := n5_
   have BK208 := n6_
   have GW208 := n7_
   have GE208 := ge_ n8_.out
   have NB187_208 := nq_ n9_.out
   have NB208_187 := nq_ n10_.out
   have NB0_208 := nq_ n11_.out
   have NB208_0 := nq_ n12_.out
   clear n0_ n1_ n2_ n3_ n4_ n5_ n6_ n7_ n8_ n9_ n10_ n11_ n12_
   clear hb hbox hg
   refine hK.out _ _ trivial (fun hHeld => ?_)
   clear hK K
   refine norm_ (a' := ?_) ?_ ?_
   rotate_left
   ·show Act.put _ (some 7) _ = _
    simp only [Act.put, la_, lz_, ls_, i64_w, i32_w]
    rfl
   refine one_ (i := 9) (N := some 32) #[T_, T_, T_, T_, T_, T_, T_, T_, T_, T_, T_, F_, F_, F_, F_, T_, F_] rfl rfl (one_of HT_.out (by kernel_rfl)) (by decide) (fun K hK => ?_)
   refine goes_ Try.func46 (by kernel_rfl) rfl #[.pointer (some ⟨g, 0, none⟩), .int .i64 3] (by rfl) rfl rfl (by (try simp only [lm_, lo_, ln_]); first | done | rfl | (simp only [List.length_drop, List.length_take]; rfl)) ?_
   with_reducible refine (spec_l20Rd_pick.calls k g s0_0 t202 3 t204 t205 w0 _ ?side1 ?side2 A15.out).mono ?_
   (case side1 => repeat (first | (with_reducible first | exact HI0.out | apply IsS82.alloc | apply IsS82.drewN | apply IsS82.drew | apply IsS82.set_1 | refine IsS82.far ?_ NB0_187.out _ | refine IsS82.far ?_ NB0_208.out _) | exact HI0.out))
   (case side2 => repeat (first | (with_reducible first | exact HB.out | apply na_ | apply nn_ | apply nw_ | refine bs_ ?_ (IsS82.ge HI0.out) | refine bs_ ?_ GE187.out | refine bs_ ?_ GE208.out) | exact HB.out))
   rintro e w120 ⟨rfl, hi, hb, hk⟩
   refine ⟨_, rfl, ?_⟩
   have n0_ := mk_ (KeepBut.blk hk (g' := gb187) (o := .cells #[.int .i64 0, .int .i64 0, .int .i64 0, .int .i64 0] 88 (0, 0)) (u_ BK187.out) NB187_0.out (by simp))
   have n1_ := mk_ (Kd.R_mono (Kd.R_keep (IsS82.apart (show IsS82 w0 _ g s0_0 t202 from by repeat (first | (with_reducible first | exact HI0.out | apply IsS82.alloc | apply IsS82.drewN | apply IsS82.drew | apply IsS82.set_1 | refine IsS82.far ?_ NB0_187.out _ | refine IsS82.far ?_ NB0_208.out _) | exact HI0.out)) (Kd.ur_ HO192.out) (by decide)) hk (fun _ h => h.2)) (fun _ h => h.1))
   have n2_ := mk_ (Kd.R_mono (Kd.R_keep (IsS82.apart (show IsS82 w0 _ g s0_0 t202 from by repeat (first | (with_reducible first | exact HI0.out | apply IsS82.alloc | apply IsS82.drewN | apply IsS82.drew | apply IsS82.set_1 | refine IsS82.far ?_ NB0_187.out _ | refine IsS82.far ?_ NB0_208.out _) | exact HI0.out)) (Kd.ur_ HO200.out) (by decide)) hk (fun _ h => h.2)) (fun _ h => h.1))
   have n3_ := mk_ (KeepBut.blk hk (g' := gb208) (o := .cells #[.int .i64 0, .int .i64 0, .int .i64 0, .int .i64 0] 88 (0, 0)) (u_ BK208.out) NB208_0.out (by simp))
   have n4_ := mk_ (KeepBut.trans (by repeat (first | (with_reducible first | exact HK.out | apply KeepBut.set_ | apply keep_drewN | apply keep_drew | apply keep_alloc | refine keep_far ?_ GW187.out _ | refine keep_far ?_ GW208.out _) | exact HK.out)) hk (.inl rfl))
   have n5_ := mk_ (hb)
   have n6_ := mk_ (hi)
   clear BK187
   clear HO192
   clear HO200
   clear BK208
   clear HK
   clear HB
   clear HI0
   have BK187 := n0_
   have HO192 := n1_
   have HO200 := n2_
   have BK208 := n3_
   have HK := n4_
   have HB := n5_
   have HI0 := n6_
   clear n0_ n1_ n2_ n3_ n4_ n5_ n6_
   (try clear hb)
   (try clear hb2)
   (try clear hk)
   (try clear hi)
   refine hK.out _ _ trivial (fun hHeld => ?_)
   clear hK K
   refine norm_ (a' := ?_) ?_ ?_
   rotate_left
   ·show Act.put _ (some 32) _ = _
    simp only [Act.put, la_, lz_, ls_, i64_w, i32_w]
    rfl
   refine one_ (i := 11) (N := some 34) #[T_, T_, T_, T_, T_, T_, T_, T_, T_, T_, T_, T_, F_, F_, F_, T_, F_] rfl rfl (one_of HT_.out (by kernel_rfl)) (by decide) (fun K hK => ?_)
   refine goes_ Try.func46 (by kernel_rfl) rfl #[.pointer (some ⟨g, 0, none⟩), .int .i64 3] (by rfl) rfl rfl (by (try simp only [lm_, lo_, ln_]); first | done | rfl | (simp only [List.length_drop, List.length_take]; rfl)) ?_
   with_reducible refine (spec_l20Rd_pick.calls k g s0_0 t205 3 t206 t207 w0 _ ?side1 ?side2 A16.out).mono ?_
   (case side1 => repeat (first | (with_reducible first | exact HI0.out | apply IsS82.alloc | apply IsS82.drewN | apply IsS82.drew | apply IsS82.set_1 | refine IsS82.far ?_ NB0_187.out _ | refine IsS82.far ?_ NB0_208.out _) | exact HI0.out))
   (case side2 => repeat (first | (with_reducible first | exact HB.out | apply na_ | apply nn_ | apply nw_ | refine bs_ ?_ (IsS82.ge HI0.out) | refine bs_ ?_ GE187.out | refine bs_ ?_ GE208.out) | exact HB.out))
   rintro e w121 ⟨rfl, hi, hb, hk⟩
   refine ⟨_, rfl, ?_⟩
   have n0_ := mk_ (KeepBut.blk hk (g' := gb187) (o := .cells #[.int .i64 0, .int .i64 0, .int .i64 0, .int .i64 0] 88 (0, 0)) (u_ BK187.out) NB187_0.out (by simp))
   have n1_ := mk_ (Kd.R_mono (Kd.R_keep (IsS82.apart (show IsS82 w0 _ g s0_0 t205 from by repeat (first | (with_reducible first | exact HI0.out | apply IsS82.alloc | apply IsS82.drewN | apply IsS82.drew | apply IsS82.set_1 | refine IsS82.far ?_ NB0_187.out _ | refine IsS82.far ?_ NB0_208.out _) | exact HI0.out)) (Kd.ur_ HO192.out) (by decide)) hk (fun _ h => h.2)) (fun _ h => h.1))
   have n2_ := mk_ (Kd.R_mono (Kd.R_keep (IsS82.apart (show IsS82 w0 _ g s0_0 t205 from by repeat (first | (with_reducible first | exact HI0.out | apply IsS82.alloc | apply IsS82.drewN | apply IsS82.drew | apply IsS82.set_1 | refine IsS82.far ?_ NB0_187.out _ | refine IsS82.far ?_ NB0_208.out _) | exact HI0.out)) (Kd.ur_ HO200.out) (by decide)) hk (fun _ h => h.2)) (fun _ h => h.1))
   have n3_ := mk_ (KeepBut.blk hk (g' := gb208) (o := .cells #[.int .i64 0, .int .i64 0, .int .i64 0, .int .i64 0] 88 (0, 0)) (u_ BK208.out) NB208_0.out (by simp))
   have n4_ := mk_ (KeepBut.trans (by repeat (first | (with_reducible first | exact HK.out | apply KeepBut.set_ | apply keep_drewN | apply keep_drew | apply keep_alloc | refine keep_far ?_ GW187.out _ | refine keep_far ?_ GW208.out _) | exact HK.out)) hk (.inl rfl))
   have n5_ := mk_ (hb)
   have n6_ := mk_ (hi)
   clear BK187
   clear HO192
   clear HO200
   clear BK208
   clear HK
   clear HB
   clear HI0
   have BK187 := n0_
   have HO192 := n1_
   have HO200 := n2_
   have BK208 := n3_
   have HK := n4_
   have HB := n5_
   have HI0 := n6_
   clear n0_ n1_ n2_ n3_ n4_ n5_ n6_
   (try clear hb)
   (try clear hb2)
   (try clear hk)
   (try clear hi)
   refine hK.out _ _ trivial (fun hHeld => ?_)
   clear hK K
   refine norm_ (a' := ?_) ?_ ?_
   rotate_left
   ·show Act.put _ (some 34) _ = _
    simp only [Act.put, la_, lz_, ls_, i64_w, i32_w]
    rfl
   refine pure_ (i := 12) (N := some 35) (v := ?_) (a' := ?_) #[T_, T_, T_, T_, T_, T_, T_, T_, T_, T_, T_, T_, T_, F_, F_, T_, F_] rfl rfl (any_of HT_.out (by kernel_rfl)) (fun _ _ _ h => h) (Or.inl ⟨by rfl, ?_⟩) ?_ ?_
   rotate_left
   ·intro w'
    go_simp
    with_reducible rfl
   rotate_left
   ·simp only [Act.put, la_, lz_, ls_, i64_w, i32_w]
    rfl
   refine pure_ (i := 13) (N := some 36) (v := ?_) (a' := ?_) #[T_, T_, T_, T_, T_, T_, T_, T_, T_, T_, T_, T_, T_, T_, F_, T_, F_] rfl rfl (any_of HT_.out (by kernel_rfl)) (fun _ _ _ h => h) (Or.inl ⟨by rfl, ?_⟩) ?_ ?_
   rotate_left
   ·intro w'
    go_simp
    with_reducible rfl
   rotate_left
   ·simp only [Act.put, la_, lz_, ls_, i64_w, i32_w]
    rfl
   refine pure_ (i := 14) (N := some 37) (v := ?_) (a' := ?_) #[T_, T_, T_, T_, T_, T_, T_, T_, T_, T_, T_, T_, T_, T_, T_, T_, F_] rfl rfl (any_of HT_.out (by kernel_rfl)) (fun _ _ _ h => h) (Or.inl ⟨by rfl, ?_⟩) ?_ ?_
   rotate_left
   ·intro w'
    go_simp
    with_reducible rfl
   rotate_left
   ·simp only [Act.put, la_, lz_, ls_, i64_w, i32_w]
    rfl
   exact norm_ (by simp only [putAll, Act.put, la_, lz_, ls_]) (hCont (gb208) _ ⟨(by (with_reducible repeat (first | apply Kd.R_alloc | apply Kd.R_drewN | apply Kd.R_drew)); exact Kd.R_mono HO192.out (fun _ hk => hk.2)), (by (with_reducible repeat (first | apply Kd.R_alloc | apply Kd.R_drewN | apply Kd.R_drew)); exact Kd.R_mono HO200.out (fun _ hk => hk.2)), (u_ BK187.out), (u_ BK208.out), GW208.out, GE208.out, NB0_208.out, NB208_0.out, NB187_208.out, NB208_187.out, (by repeat (first | (with_reducible first | exact HI0.out | apply IsS82.alloc | apply IsS82.drewN | apply IsS82.drew | apply IsS82.set_1 | refine IsS82.far ?_ NB0_187.out _ | refine IsS82.far ?_ NB0_208.out _) | exact HI0.out)), (by repeat (first | (with_reducible first | exact HK.out | apply KeepBut.set_ | apply keep_drewN | apply keep_drew | apply keep_alloc | refine keep_far ?_ GW187.out _ | refine keep_far ?_ GW208.out _) | exact HK.out)), (by repeat (first | (with_reducible first | exact HB.out | apply na_ | apply nn_ | apply nw_ | refine bs_ ?_ (IsS82.ge HI0.out) | refine bs_ ?_ GE187.out | refine bs_ ?_ GE208.out) | exact HB.out))⟩)
  rintro gb208 w122 ⟨h0_, h1_, h2_, h3_, h4_, h5_, h6_, h7_, h8_, h9_, h10_, h11_, h12_⟩
  have n0_ : Aside0 (Kd.R (Kd.int .i64) 3 w122 w.heap.size (fun k_ => some k_ ≠ (.slice (some ad203) y198.length co117 : Value).ownBlock) (.slice (some ad195) y190.length co112) y190) := ⟨h0_⟩
  have n1_ : Aside0 (Kd.R (Kd.int .i64) 3 w122 w.heap.size (fun k_ => some k_ ≠ (.slice (some ad195) y190.length co112 : Value).ownBlock) (.slice (some ad203) y198.length co117) y198) := ⟨h1_⟩
  have n2_ : Aside0 (w122.heap[gb187]? = some (.cells #[.int .i64 0, .int .i64 0, .int .i64 0, .int .i64 0] 88 (0, 0))) := ⟨h2_⟩
  have n3_ : Aside0 (w122.heap[gb208]? = some (.cells #[.int .i64 0, .int .i64 0, .int .i64 0, .int .i64 0] 88 (0, 0))) := ⟨h3_⟩
  have n4_ : Aside0 (w.heap.size ≤ gb208) := ⟨h4_⟩
  have n5_ : Aside0 (w0.heap.size ≤ gb208) := ⟨h5_⟩
  have n6_ : Aside0 (g ≠ gb208) := ⟨h6_⟩
  have n7_ : Aside0 (gb208 ≠ g) := ⟨h7_⟩
  have n8_ : Aside0 (gb187 ≠ gb208) := ⟨h8_⟩
  have n9_ : Aside0 (gb208 ≠ gb187) := ⟨h9_⟩
  have n10_ : Aside0 (IsS82 w0 w122 g s0_0 t207) := ⟨h10_⟩
  have n11_ : Aside0 (KeepBut w w122 g none) := ⟨h11_⟩
  have n12_ : Aside0 (Below w0.heap.size w0 w122) := ⟨h12_⟩
  clear HO192
  clear HO200
  clear BK187
  clear HI0
  clear HK
  clear HB
  clear h0_ h1_ h2_ h3_ h4_ h5_ h6_ h7_ h8_ h9_ h10_ h11_ h12_
  have HO192 := n0_
  have HO200 := n1_
  have BK187 := n2_
  have BK208 := n3_
  have GW208 := n4_
  have GE208 := ge_ n5_.out
  have NB0_208 := nq_ n6_.out
  have NB208_0 := nq_ n7_.out
  have NB187_208 := nq_ n8_.out
  have NB208_187 := nq_ n9_.out
  have HI0 := n10_
  have HK := n11_
  have HB := n12_
  clear n0_ n1_ n2_ n3_ n4_ n5_ n6_ n7_ n8_ n9_ n10_ n11_ n12_
  have hHeld := trivial
  refine norm_ (a' := ?_) ?_ ?_
  rotate_left
  ·simp only [putAll, Act.put, la_, lz_, ls_]
   rfl
  refine one_ (i := 16) (N := none) #[T_, T_, T_, T_, T_, T_, T_, T_, T_, T_, T_, T_, T_, T_, T_, T_, T_] rfl rfl (one_of HT_.out (by kernel_rfl)) (by decide) (fun K hK => ?_)
  have hs123 : w122.cell? ⟨gb208, 0, none⟩ = some (.int .i64 0) := (blk_cell BK208.out 0).trans rfl
  have hfs123 := blk_frozen BK208.out 0
  have hns123_0 := NB187_208.out
  have hms123_0 := NB208_187.out
  have hs124 : w122.cell? ⟨gb208, 1, none⟩ = some (.int .i64 0) := (blk_cell BK208.out 1).trans rfl
  have hfs124 := blk_frozen BK208.out 1
  have hns124_0 := NB187_208.out
  have hms124_0 := NB208_187.out
  have hs125 : w122.cell? ⟨gb208, 2, none⟩ = some (.int .i64 0) := (blk_cell BK208.out 2).trans rfl
  have hfs125 := blk_frozen BK208.out 2
  have hns125_0 := NB187_208.out
  have hms125_0 := NB208_187.out
  have hs126 : w122.cell? ⟨gb208, 3, none⟩ = some (.int .i64 0) := (blk_cell BK208.out 3).trans rfl
  have hfs126 := blk_frozen BK208.out 3
  have hns126_0 := NB187_208.out
  have hms126_0 := NB208_187.out
  refine skip_ (w1 := ?_) (by rfl) rfl ?_ ?_
  rotate_left
  ·go_simp
   rfl
  refine hK.out _ _ trivial (fun hHeld => ?_)
  clear hK K
  refine done_ (done_of HT_.out (by kernel_rfl)) ?_
  try go_wp2_with (first | ((with_reducible refine gate_callee (f := 65) rfl ?_); refine goesL_ (some 40) rfl rfl Try.func65 (by kernel_rfl) rfl #[.pointer (some ⟨g, 0, none⟩), .int .i64 a1] rfl (by (try simp only [lm_, lo_, ln_]); first | done | rfl | (simp only [List.length_drop, List.length_take]; rfl)) ?_; (with_reducible refine (spec_l20Rd_odd.calls k g s0_0 t207 a1 false t210 w0 _ ?side1 ?side2 A17.out).mono ?_); (case side1 => repeat (first | (with_reducible first | exact HI0.out | apply IsS82.alloc | apply IsS82.drewN | apply IsS82.drew | apply IsS82.set_1 | refine IsS82.far ?_ NB0_187.out _ | refine IsS82.far ?_ NB0_208.out _) | exact HI0.out)); (case side2 => repeat (first | (with_reducible first | exact HB.out | apply na_ | apply nn_ | apply nw_ | refine bs_ ?_ (IsS82.ge HI0.out) | refine bs_ ?_ GE187.out | refine bs_ ?_ GE208.out) | exact HB.out)); rintro e w127 ⟨rfl, hi, hb, hk⟩; refine ⟨_, rfl, ?_⟩; have n0_ := mk_ (KeepBut.blk hk (g' := gb187) (o := .cells #[.int .i64 0, .int .i64 0, .int .i64 0, .int .i64 0] 88 (0, 0)) (uf_ BK187.out) NB187_0.out (by simp)); have n1_ := mk_ (Kd.R_mono (Kd.R_keep (IsS82.apart (show IsS82 w0 _ g s0_0 t207 from by repeat (first | (with_reducible first | exact HI0.out | apply IsS82.alloc | apply IsS82.drewN | apply IsS82.drew | apply IsS82.set_1 | refine IsS82.far ?_ NB0_187.out _ | refine IsS82.far ?_ NB0_208.out _) | exact HI0.out)) (by (with_reducible repeat (first | apply Kd.R_alloc | apply Kd.R_drewN | apply Kd.R_drew)); exact (Kd.R_mono (Kd.R_far (p := ⟨gb208, 3, none⟩) (Kd.R_far (p := ⟨gb208, 2, none⟩) (Kd.R_far (p := ⟨gb208, 1, none⟩) (Kd.R_far (p := ⟨gb208, 0, none⟩) (Kd.R_types HO192.out BK208.out (by decide)) (fun _ hk => hk.2) (.int .i64 (wrap64 ((rd y198 t201) - (Int.tmod (rd y198 t201) (ji13)))))) (fun _ hk => hk.2) (.int .i64 (rd y190 t193))) (fun _ hk => hk.2) (.int .i64 t204)) (fun _ hk => hk.2) (.int .i64 (wrap64 (4 + (wrap64 (t206 * 6)))))) (fun _ h_ => by first | exact h_.1 | simp only [h_, ne_eq, not_false_eq_true, and_self]))) (by decide)) hk (fun _ h => h.2)) (fun _ h => h.1)); have n2_ := mk_ (Kd.R_mono (Kd.R_keep (IsS82.apart (show IsS82 w0 _ g s0_0 t207 from by repeat (first | (with_reducible first | exact HI0.out | apply IsS82.alloc | apply IsS82.drewN | apply IsS82.drew | apply IsS82.set_1 | refine IsS82.far ?_ NB0_187.out _ | refine IsS82.far ?_ NB0_208.out _) | exact HI0.out)) (by (with_reducible repeat (first | apply Kd.R_alloc | apply Kd.R_drewN | apply Kd.R_drew)); exact (Kd.R_mono (Kd.R_far (p := ⟨gb208, 3, none⟩) (Kd.R_far (p := ⟨gb208, 2, none⟩) (Kd.R_far (p := ⟨gb208, 1, none⟩) (Kd.R_far (p := ⟨gb208, 0, none⟩) (Kd.R_types HO200.out BK208.out (by decide)) (fun _ hk => hk.2) (.int .i64 (wrap64 ((rd y198 t201) - (Int.tmod (rd y198 t201) (ji13)))))) (fun _ hk => hk.2) (.int .i64 (rd y190 t193))) (fun _ hk => hk.2) (.int .i64 t204)) (fun _ hk => hk.2) (.int .i64 (wrap64 (4 + (wrap64 (t206 * 6)))))) (fun _ h_ => by first | exact h_.1 | simp only [h_, ne_eq, not_false_eq_true, and_self]))) (by decide)) hk (fun _ h => h.2)) (fun _ h => h.1)); have n3_ := mk_ (KeepBut.blk hk (g' := gb208) (o := .cells #[.int .i64 (wrap64 ((rd y198 t201) - (Int.tmod (rd y198 t201) (ji13)))), .int .i64 (rd y190 t193), .int .i64 t204, .int .i64 (wrap64 (4 + (wrap64 (t206 * 6))))] 88 (0, 0)) (by (with_reducible repeat (first | refine bn_ ?_ _ | refine bw_ ?_ | refine ba_ ?_ _)); refine blk_put (cs := #[.int .i64 (wrap64 ((rd y198 t201) - (Int.tmod (rd y198 t201) (ji13)))), .int .i64 (rd y190 t193), .int .i64 t204, .int .i64 0]) ?_ 3 _ rfl; (with_reducible repeat (first | refine bn_ ?_ _ | refine bw_ ?_ | refine ba_ ?_ _)); refine blk_put (cs := #[.int .i64 (wrap64 ((rd y198 t201) - (Int.tmod (rd y198 t201) (ji13)))), .int .i64 (rd y190 t193), .int .i64 0, .int .i64 0]) ?_ 2 _ rfl; (with_reducible repeat (first | refine bn_ ?_ _ | refine bw_ ?_ | refine ba_ ?_ _)); refine blk_put (cs := #[.int .i64 (wrap64 ((rd y198 t201) - (Int.tmod (rd y198 t201) (ji13)))), .int .i64 0, .int .i64 0, .int .i64 0]) ?_ 1 _ rfl; (with_reducible repeat (first | refine bn_ ?_ _ | refine bw_ ?_ | refine ba_ ?_ _)); refine blk_put (cs := #[.int .i64 0, .int .i64 0, .int .i64 0, .int .i64 0]) ?_ 0 _ rfl; (with_reducible repeat (first | refine bn_ ?_ _ | refine bw_ ?_ | refine ba_ ?_ _)); exact BK208.out) NB208_0.out (by simp)); have n4_ := mk_ (KeepBut.trans (by repeat (first | (with_reducible first | exact HK.out | apply KeepBut.set_ | apply keep_drewN | apply keep_drew | apply keep_alloc | refine keep_far ?_ GW187.out _ | refine keep_far ?_ GW208.out _) | exact HK.out)) hk (.inl rfl)); have n5_ := mk_ (hb); have n6_ := mk_ (hi); clear BK187; clear HO192; clear HO200; clear BK208; clear HK; clear HB; clear HI0; have BK187 := n0_; have HO192 := n1_; have HO200 := n2_; have BK208 := n3_; have HK := n4_; have HB := n5_; have HI0 := n6_; clear n0_ n1_ n2_ n3_ n4_ n5_ n6_; (try clear hb); (try clear hb2); (try clear hk); (try clear hi); have hnb128 := NB208_187.out; have hnc128 := NB187_208.out; have hnb129 := NB208_0.out; have hnc129 := NB0_208.out; obtain ⟨hcz130_0, hcz130_1, hcz130_2, hcz130_3, hfz130_0, hfz130_1, hfz130_2, hfz130_3⟩ := cells4_ BK208.out; have hnb131 := NB187_0.out; have hnc131 := NB0_187.out; obtain ⟨hcz132_0, hcz132_1, hcz132_2, hcz132_3, hfz132_0, hfz132_1, hfz132_2, hfz132_3⟩ := cells4_ BK187.out))
  refine bodyPost_ret (results_cell_row rfl _ _ gb187 88 #[.int .i64 (wrap64 ((rd y198 t201) - (Int.tmod (rd y198 t201) (ji13)))), .int .i64 (rd y190 t193), .int .i64 t204, .int .i64 (wrap64 (4 + (wrap64 (t206 * 6))))] (0, 0) _ rfl (by (with_reducible repeat (first | refine bn_ ?_ _ | refine bw_ ?_ | refine ba_ ?_ _)); refine blk_put (cs := #[.int .i64 (wrap64 ((rd y198 t201) - (Int.tmod (rd y198 t201) (ji13)))), .int .i64 (rd y190 t193), .int .i64 t204, .int .i64 0]) ?_ 3 _ rfl; (with_reducible repeat (first | refine bn_ ?_ _ | refine bw_ ?_ | refine ba_ ?_ _)); refine blk_put (cs := #[.int .i64 (wrap64 ((rd y198 t201) - (Int.tmod (rd y198 t201) (ji13)))), .int .i64 (rd y190 t193), .int .i64 0, .int .i64 0]) ?_ 2 _ rfl; (with_reducible repeat (first | refine bn_ ?_ _ | refine bw_ ?_ | refine ba_ ?_ _)); refine blk_put (cs := #[.int .i64 (wrap64 ((rd y198 t201) - (Int.tmod (rd y198 t201) (ji13)))), .int .i64 0, .int .i64 0, .int .i64 0]) ?_ 1 _ rfl; (with_reducible repeat (first | refine bn_ ?_ _ | refine bw_ ?_ | refine ba_ ?_ _)); refine blk_put (cs := #[.int .i64 0, .int .i64 0, .int .i64 0, .int .i64 0]) ?_ 0 _ rfl; (with_reducible repeat (first | refine bn_ ?_ _ | refine bw_ ?_ | refine ba_ ?_ _)); exact BK187.out) Try.underlying88 rfl (by kernel_rfl)) rfl ?_
  exact ⟨by first | rfl | (simp [errW_none, errW_some] <;> rfl) | (simp only [← hji11, ← hji13]; first | rfl | (simp [errW_none, errW_some] <;> rfl)) | (simp [*, errW_none, errW_some] <;> rfl), by repeat (first | (with_reducible first | exact HI0.out | apply IsS82.alloc | apply IsS82.drewN | apply IsS82.drew | apply IsS82.set_1 | refine IsS82.far ?_ NB0_187.out _ | refine IsS82.far ?_ NB0_208.out _) | exact HI0.out), by repeat (first | (with_reducible first | exact HB.out | apply na_ | apply nn_ | apply nw_ | refine bs_ ?_ (IsS82.ge HI0.out) | refine bs_ ?_ GE187.out | refine bs_ ?_ GE208.out) | exact HB.out), by repeat (first | (with_reducible first | exact HK.out | apply KeepBut.set_ | apply keep_drewN | apply keep_drew | apply keep_alloc | refine keep_far ?_ GW187.out _ | refine keep_far ?_ GW208.out _) | exact HK.out)⟩
 subst c18
 have H1 : ((spec_l20Rd_pick.f k s0_0 t210 3).bind fun bt211 => (if bt211.1 = 0 then ((spec_l20Rd_pick.f k s0_0 bt211.2 2).bind fun bt213 => (some (wrap64 ((rd y198 t201) - (Int.tmod (rd y198 t201) (ji13))), wrap64 (17 - (wrap64 (bt213.1 * 18))), t204, wrap64 (4 + (wrap64 (t206 * 6))), bt213.2))) else (if bt211.1 = 1 then ((spec_l20Rd_pick.f k s0_0 bt211.2 2).bind fun bt215 => (some (wrap64 ((rd y198 t201) - (Int.tmod (rd y198 t201) (ji13))), rd y190 t193, t204, wrap64 (bt215.1 * 49), bt215.2))) else (some (wrap64 ((wrap64 ((rd y198 t201) - (Int.tmod (rd y198 t201) (ji13)))) + 1), rd y190 t193, t204, wrap64 (4 + (wrap64 (t206 * 6))), bt211.2))))) = some (r1, r2, r3, r4, r5) := by rw [if_pos rfl] at H; exact H
 clear H
 have H := H1
 clear H1
 replace H := Option.bind_eq_some_iff.mp H
 obtain ⟨⟨t211, t212⟩, A190, H⟩ := H
 replace H : (if t211 = 0 then ((spec_l20Rd_pick.f k s0_0 t212 2).bind fun bt213 => (some (wrap64 ((rd y198 t201) - (Int.tmod (rd y198 t201) (ji13))), wrap64 (17 - (wrap64 (bt213.1 * 18))), t204, wrap64 (4 + (wrap64 (t206 * 6))), bt213.2))) else (if t211 = 1 then ((spec_l20Rd_pick.f k s0_0 t212 2).bind fun bt215 => (some (wrap64 ((rd y198 t201) - (Int.tmod (rd y198 t201) (ji13))), rd y190 t193, t204, wrap64 (bt215.1 * 49), bt215.2))) else (some (wrap64 ((wrap64 ((rd y198 t201) - (Int.tmod (rd y198 t201) (ji13)))) + 1), rd y190 t193, t204, wrap64 (4 + (wrap64 (t206 * 6))), t212)))) = some (r1, r2, r3, r4, r5) := H
 have A19 := mk_ A190
 clear A190
 by_cases c20 : t211 = 0
 ·rw [if_pos c20] at H
  have c20b0 : (t211 == 0) = true := beq_iff_eq.mpr c20
  have c20b1 : (t211 != 0) = false := bne_eq_false_iff_eq.mpr c20
  clear c20
  replace H := Option.bind_eq_some_iff.mp H
  obtain ⟨⟨t213, t214⟩, A210, H⟩ := H
  replace H : (some (wrap64 ((rd y198 t201) - (Int.tmod (rd y198 t201) (ji13))), wrap64 (17 - (wrap64 (t213 * 18))), t204, wrap64 (4 + (wrap64 (t206 * 6))), t214)) = some (r1, r2, r3, r4, r5) := H
  have A21 := mk_ A210
  clear A210
  simp only [Option.some.injEq, Prod.mk.injEq] at H
  obtain ⟨rfl, rfl, rfl, rfl, rfl⟩ := H
  go_enter Try.func68, Try.ntmps68
  try go_wp2_with (first | ((with_reducible refine gate_dst (N := 4) rfl ?_); refine box_event ?hg (N := 4) ?hd (cs := #[.int .i64 0, .int .i64 0, .int .i64 0, .int .i64 0]) (t := 88) ?hr ?_; (case hd => rfl); (case hg => rfl); (case hr => first | (go_simp; done) | (go_simp; rfl)); intro gb187 hg w22 hbox hb; have n0_ := mk_ (IsS82.below (by repeat (first | (with_reducible first | exact HI0.out | apply IsS82.alloc | apply IsS82.drewN | apply IsS82.drew | apply IsS82.set_1) | exact HI0.out)) hb); have n1_ := mk_ (KeepBut.trans (by repeat (first | (with_reducible first | exact HK.out | apply KeepBut.set_ | apply keep_drewN | apply keep_drew | apply keep_alloc) | exact HK.out)) (KeepBut.of_below hb g none) (.inl rfl)); have n2_ := mk_ (below_step (by repeat (first | (with_reducible first | exact HB.out | apply na_ | apply nn_ | apply nw_ | refine bs_ ?_ (IsS82.ge HI0.out)) | exact HB.out)) hb); have n3_ := mk_ (hbox); have n4_ := mk_ ((by rw [hg]; exact (keep_size (w := w) (g := g) (row := none) (by repeat (first | (with_reducible first | exact HK.out | apply KeepBut.set_ | apply keep_drewN | apply keep_drew | apply keep_alloc) | exact HK.out))) : w.heap.size ≤ gb187)); have n5_ := mk_ ((Nat.le_trans HW0.out (by rw [hg]; exact (keep_size (w := w) (g := g) (row := none) (by repeat (first | (with_reducible first | exact HK.out | apply KeepBut.set_ | apply keep_drewN | apply keep_drew | apply keep_alloc) | exact HK.out))) : w.heap.size ≤ gb187) : w0.heap.size ≤ gb187)); have n6_ := mk_ ((by rw [hg]; exact Nat.ne_of_lt (IsS82.lt (show IsS82 w0 _ g s0_0 s0_1 from by repeat (first | (with_reducible first | exact HI0.out | apply IsS82.alloc | apply IsS82.drewN | apply IsS82.drew | apply IsS82.set_1) | exact HI0.out))) : g ≠ gb187)); have n7_ := mk_ ((by rw [hg]; exact Nat.ne_of_gt (IsS82.lt (show IsS82 w0 _ g s0_0 s0_1 from by repeat (first | (with_reducible first | exact HI0.out | apply IsS82.alloc | apply IsS82.drewN | apply IsS82.drew | apply IsS82.set_1) | exact HI0.out))) : gb187 ≠ g)); clear HI0; clear HK; clear HB; have HI0 := n0_; have HK := n1_; have HB := n2_; have BK187 := n3_; have GW187 := n4_; have GE187 := ge_ n5_.out; have NB0_187 := nq_ n6_.out; have NB187_0 := nq_ n7_.out; clear n0_ n1_ n2_ n3_ n4_ n5_ n6_ n7_; clear hb hbox hg) | ((with_reducible refine gate_callee (f := 46) rfl ?_); have hA_ := A3.out; refine goesL_ (some 9) rfl rfl Try.func46 (by kernel_rfl) rfl #[.pointer (some ⟨g, 0, none⟩), .int .i64 17] rfl (by (try simp only [lm_, lo_, ln_]); first | done | rfl | (simp only [List.length_drop, List.length_take]; rfl)) ?_; (with_reducible refine (spec_l20Rd_pick.calls k g s0_0 s0_1 17 t188 t189 w0 _ ?side1 ?side2 A3.out).mono ?_); (case side1 => repeat (first | (with_reducible first | exact HI0.out | apply IsS82.alloc | apply IsS82.drewN | apply IsS82.drew | apply IsS82.set_1 | refine IsS82.far ?_ NB0_187.out _) | exact HI0.out)); (case side2 => repeat (first | (with_reducible first | exact HB.out | apply na_ | apply nn_ | apply nw_ | refine bs_ ?_ (IsS82.ge HI0.out) | refine bs_ ?_ GE187.out) | exact HB.out)); rintro e w23 ⟨rfl, hi, hb, hk⟩; refine ⟨_, rfl, ?_⟩; have n0_ := mk_ (KeepBut.blk hk (g' := gb187) (o := .cells #[.int .i64 0, .int .i64 0, .int .i64 0, .int .i64 0] 88 (0, 0)) (u_ BK187.out) NB187_0.out (by simp)); have n1_ := mk_ (KeepBut.trans (by repeat (first | (with_reducible first | exact HK.out | apply KeepBut.set_ | apply keep_drewN | apply keep_drew | apply keep_alloc | refine keep_far ?_ GW187.out _) | exact HK.out)) hk (.inl rfl)); have n2_ := mk_ (hb); have n3_ := mk_ (hi); clear BK187; clear HK; clear HB; clear HI0; have BK187 := n0_; have HK := n1_; have HB := n2_; have HI0 := n3_; clear n0_ n1_ n2_ n3_; (try clear hb); (try clear hb2); (try clear hk); (try clear hi); clear hA_ A3) | ((with_reducible refine gate_dst (N := 10) rfl ?_); refine Kd.R_lit (Kd.int .i64) _ 3 ?hg (N := 10) ?hd (xs := ([0, 4, 8, 8, 12, 16, t188] : List Int)) (inner := [.int .i64 0, .int .i64 4, .int .i64 8, .int .i64 8, .int .i64 12, .int .i64 16, .int .i64 t188]) (ok := fun _ => True) (okp := fun _ => True) ?hr ?hp (fun _ hk => hk) trivial (Below.refl _ _) (Nat.le_refl _) (by simp) ?_; (case hd => rfl); (case hg => rfl); (case hr => first | (go_simp; done) | (go_simp; rfl)); (case hp => exact (Reps.one (show Kd.M (Kd.int .i64) _ _ _ 0 [.int .i64 0] from rfl) (Reps.one (show Kd.M (Kd.int .i64) _ _ _ 4 [.int .i64 4] from rfl) (Reps.one (show Kd.M (Kd.int .i64) _ _ _ 8 [.int .i64 8] from rfl) (Reps.one (show Kd.M (Kd.int .i64) _ _ _ 8 [.int .i64 8] from rfl) (Reps.one (show Kd.M (Kd.int .i64) _ _ _ 12 [.int .i64 12] from rfl) (Reps.one (show Kd.M (Kd.int .i64) _ _ _ 16 [.int .i64 16] from rfl) (Reps.one (show Kd.M (Kd.int .i64) _ _ _ t188 [.int .i64 t188] from rfl) (Reps.none _ _))))))))); intro v191 w24 ho25 hb hg_ hnew_; clear hg_ hnew_; (first | rw [← Ny190.out] at ho25 | (simp only [Int.reduceToNat] at ho25; rw [← Ny190.out] at ho25)); have n0_ := mk_ (Kd.R_lower ho25 (keep_size (w := w) (g := g) (row := none) (by repeat (first | (with_reducible first | exact HK.out | apply KeepBut.set_ | apply keep_drewN | apply keep_drew | apply keep_alloc | refine keep_far ?_ GW187.out _) | exact HK.out)))); have n1_ := mk_ (IsS82.below (by repeat (first | (with_reducible first | exact HI0.out | apply IsS82.alloc | apply IsS82.drewN | apply IsS82.drew | apply IsS82.set_1 | refine IsS82.far ?_ NB0_187.out _) | exact HI0.out)) hb); have n2_ := mk_ (blk_below (u_ BK187.out) hb); have n3_ := mk_ (KeepBut.trans (by repeat (first | (with_reducible first | exact HK.out | apply KeepBut.set_ | apply keep_drewN | apply keep_drew | apply keep_alloc | refine keep_far ?_ GW187.out _) | exact HK.out)) (KeepBut.of_below hb g none) (.inl rfl)); have n4_ := mk_ (below_step (by repeat (first | (with_reducible first | exact HB.out | apply na_ | apply nn_ | apply nw_ | refine bs_ ?_ (IsS82.ge HI0.out) | refine bs_ ?_ GE187.out) | exact HB.out)) hb); clear HI0; clear BK187; clear HK; clear HB; have HO192 := n0_; have HI0 := n1_; have BK187 := n2_; have HK := n3_; have HB := n4_; clear n0_ n1_ n2_ n3_ n4_; clear hb ho25) | ((with_reducible refine gate_callee (f := 46) rfl ?_); have hA_ := A4.out; refine goesL_ (some 12) rfl rfl Try.func46 (by kernel_rfl) rfl #[.pointer (some ⟨g, 0, none⟩), .int .i64 7] rfl (by (try simp only [lm_, lo_, ln_]); first | done | rfl | (simp only [List.length_drop, List.length_take]; rfl)) ?_; (with_reducible refine (spec_l20Rd_pick.calls k g s0_0 t189 7 t193 t194 w0 _ ?side1 ?side2 A4.out).mono ?_); (case side1 => repeat (first | (with_reducible first | exact HI0.out | apply IsS82.alloc | apply IsS82.drewN | apply IsS82.drew | apply IsS82.set_1 | refine IsS82.far ?_ NB0_187.out _) | exact HI0.out)); (case side2 => repeat (first | (with_reducible first | exact HB.out | apply na_ | apply nn_ | apply nw_ | refine bs_ ?_ (IsS82.ge HI0.out) | refine bs_ ?_ GE187.out) | exact HB.out)); rintro e w26 ⟨rfl, hi, hb, hk⟩; refine ⟨_, rfl, ?_⟩; have n0_ := mk_ (KeepBut.blk hk (g' := gb187) (o := .cells #[.int .i64 0, .int .i64 0, .int .i64 0, .int .i64 0] 88 (0, 0)) (u_ BK187.out) NB187_0.out (by simp)); have n1_ := mk_ (Kd.R_mono (Kd.R_keep (IsS82.apart (show IsS82 w0 _ g s0_0 t189 from by repeat (first | (with_reducible first | exact HI0.out | apply IsS82.alloc | apply IsS82.drewN | apply IsS82.drew | apply IsS82.set_1 | refine IsS82.far ?_ NB0_187.out _) | exact HI0.out)) (Kd.ur_ HO192.out) (by decide)) hk (fun _ h => h.2)) (fun _ h => h.1)); have n2_ := mk_ (KeepBut.trans (by repeat (first | (with_reducible first | exact HK.out | apply KeepBut.set_ | apply keep_drewN | apply keep_drew | apply keep_alloc | refine keep_far ?_ GW187.out _) | exact HK.out)) hk (.inl rfl)); have n3_ := mk_ (hb); have n4_ := mk_ (hi); clear BK187; clear HO192; clear HK; clear HB; clear HI0; have BK187 := n0_; have HO192 := n1_; have HK := n2_; have HB := n3_; have HI0 := n4_; clear n0_ n1_ n2_ n3_ n4_; (try clear hb); (try clear hb2); (try clear hk); (try clear hi); obtain ⟨Ao27, co27, eo27⟩ := Kd.R_slice HO192.out; subst eo27; have p195 : 0 ≤ (t193 : Int) := of_decide_eq_true (by first | (with_reducible assumption) | assumption); have q195 : t193 < (y190.length : Int) := of_decide_eq_true (by first | (with_reducible assumption) | assumption); obtain ⟨ad195, e195, hx195_0⟩ := Kd.at_int (Kd.R_reads' HO192.out).2.2 t193 p195 q195; cases e195; replace p195 := eq_true p195; replace q195 := eq_true q195; clear hA_ A4) | ((with_reducible refine gate_callee (f := 46) rfl ?_); have hA_ := A7.out; refine goesL_ (some 16) rfl rfl Try.func46 (by kernel_rfl) rfl #[.pointer (some ⟨g, 0, none⟩), .int .i64 512] rfl (by (try simp only [lm_, lo_, ln_]); first | done | rfl | (simp only [List.length_drop, List.length_take]; rfl)) ?_; (with_reducible refine (spec_l20Rd_pick.calls k g s0_0 t194 512 t196 t197 w0 _ ?side1 ?side2 A7.out).mono ?_); (case side1 => repeat (first | (with_reducible first | exact HI0.out | apply IsS82.alloc | apply IsS82.drewN | apply IsS82.drew | apply IsS82.set_1 | refine IsS82.far ?_ NB0_187.out _) | exact HI0.out)); (case side2 => repeat (first | (with_reducible first | exact HB.out | apply na_ | apply nn_ | apply nw_ | refine bs_ ?_ (IsS82.ge HI0.out) | refine bs_ ?_ GE187.out) | exact HB.out)); rintro e w28 ⟨rfl, hi, hb, hk⟩; refine ⟨_, rfl, ?_⟩; have n0_ := mk_ (KeepBut.blk hk (g' := gb187) (o := .cells #[.int .i64 0, .int .i64 0, .int .i64 0, .int .i64 0] 88 (0, 0)) (u_ BK187.out) NB187_0.out (by simp)); have n1_ := mk_ (Kd.R_mono (Kd.R_keep (IsS82.apart (show IsS82 w0 _ g s0_0 t194 from by repeat (first | (with_reducible first | exact HI0.out | apply IsS82.alloc | apply IsS82.drewN | apply IsS82.drew | apply IsS82.set_1 | refine IsS82.far ?_ NB0_187.out _) | exact HI0.out)) (Kd.ur_ HO192.out) (by decide)) hk (fun _ h => h.2)) (fun _ h => h.1)); have n2_ := mk_ (KeepBut.trans (by repeat (first | (with_reducible first | exact HK.out | apply KeepBut.set_ | apply keep_drewN | apply keep_drew | apply keep_alloc | refine keep_far ?_ GW187.out _) | exact HK.out)) hk (.inl rfl)); have n3_ := mk_ (hb); have n4_ := mk_ (hi); clear BK187; clear HO192; clear HK; clear HB; clear HI0; have BK187 := n0_; have HO192 := n1_; have HK := n2_; have HB := n3_; have HI0 := n4_; clear n0_ n1_ n2_ n3_ n4_; (try clear hb); (try clear hb2); (try clear hk); (try clear hi); clear hA_ A7) | ((with_reducible refine gate_dst (N := 18) rfl ?_); refine Kd.R_lit (Kd.int .i64) _ 3 ?hg (N := 18) ?hd (xs := ([0, 4096, 4352, 4353, wrap64 (4096 + t196), 65535] : List Int)) (inner := [.int .i64 0, .int .i64 4096, .int .i64 4352, .int .i64 4353, .int .i64 (wrap64 (4096 + t196)), .int .i64 65535]) (ok := fun _ => True) (okp := fun _ => True) ?hr ?hp (fun _ hk => hk) trivial (Below.refl _ _) (Nat.le_refl _) (by simp) ?_; (case hd => rfl); (case hg => rfl); (case hr => first | (go_simp; done) | (go_simp; rfl)); (case hp => exact (Reps.one (show Kd.M (Kd.int .i64) _ _ _ 0 [.int .i64 0] from rfl) (Reps.one (show Kd.M (Kd.int .i64) _ _ _ 4096 [.int .i64 4096] from rfl) (Reps.one (show Kd.M (Kd.int .i64) _ _ _ 4352 [.int .i64 4352] from rfl) (Reps.one (show Kd.M (Kd.int .i64) _ _ _ 4353 [.int .i64 4353] from rfl) (Reps.one (show Kd.M (Kd.int .i64) _ _ _ (wrap64 (4096 + t196)) [.int .i64 (wrap64 (4096 + t196))] from rfl) (Reps.one (show Kd.M (Kd.int .i64) _ _ _ 65535 [.int .i64 65535] from rfl) (Reps.none _ _)))))))); intro v199 w29 ho30 hb hg_ hnew_; clear hg_ hnew_; (first | rw [← Ny198.out] at ho30 | (simp only [Int.reduceToNat] at ho30; rw [← Ny198.out] at ho30)); have n0_ := mk_ (Kd.R_elder' (Kd.ur_ HO192.out) (Kd.R_base ho30) hb); have n1_ := mk_ (Kd.R_lower (Kd.R_new' ho30 (Kd.R_lt (Kd.ur_ HO192.out))) (keep_size (w := w) (g := g) (row := none) (by repeat (first | (with_reducible first | exact HK.out | apply KeepBut.set_ | apply keep_drewN | apply keep_drew | apply keep_alloc | refine keep_far ?_ GW187.out _) | exact HK.out)))); have n2_ := mk_ (IsS82.below (by repeat (first | (with_reducible first | exact HI0.out | apply IsS82.alloc | apply IsS82.drewN | apply IsS82.drew | apply IsS82.set_1 | refine IsS82.far ?_ NB0_187.out _) | exact HI0.out)) hb); have n3_ := mk_ (blk_below (u_ BK187.out) hb); have n4_ := mk_ (KeepBut.trans (by repeat (first | (with_reducible first | exact HK.out | apply KeepBut.set_ | apply keep_drewN | apply keep_drew | apply keep_alloc | refine keep_far ?_ GW187.out _) | exact HK.out)) (KeepBut.of_below hb g none) (.inl rfl)); have n5_ := mk_ (below_step (by repeat (first | (with_reducible first | exact HB.out | apply na_ | apply nn_ | apply nw_ | refine bs_ ?_ (IsS82.ge HI0.out) | refine bs_ ?_ GE187.out) | exact HB.out)) hb); clear HO192; clear HI0; clear BK187; clear HK; clear HB; have HO192 := n0_; have HO200 := n1_; have HI0 := n2_; have BK187 := n3_; have HK := n4_; have HB := n5_; clear n0_ n1_ n2_ n3_ n4_ n5_; clear hb ho30) | ((with_reducible refine gate_callee (f := 46) rfl ?_); have hA_ := A8.out; refine goesL_ (some 20) rfl rfl Try.func46 (by kernel_rfl) rfl #[.pointer (some ⟨g, 0, none⟩), .int .i64 6] rfl (by (try simp only [lm_, lo_, ln_]); first | done | rfl | (simp only [List.length_drop, List.length_take]; rfl)) ?_; (with_reducible refine (spec_l20Rd_pick.calls k g s0_0 t197 6 t201 t202 w0 _ ?side1 ?side2 A8.out).mono ?_); (case side1 => repeat (first | (with_reducible first | exact HI0.out | apply IsS82.alloc | apply IsS82.drewN | apply IsS82.drew | apply IsS82.set_1 | refine IsS82.far ?_ NB0_187.out _) | exact HI0.out)); (case side2 => repeat (first | (with_reducible first | exact HB.out | apply na_ | apply nn_ | apply nw_ | refine bs_ ?_ (IsS82.ge HI0.out) | refine bs_ ?_ GE187.out) | exact HB.out)); rintro e w31 ⟨rfl, hi, hb, hk⟩; refine ⟨_, rfl, ?_⟩; have n0_ := mk_ (KeepBut.blk hk (g' := gb187) (o := .cells #[.int .i64 0, .int .i64 0, .int .i64 0, .int .i64 0] 88 (0, 0)) (u_ BK187.out) NB187_0.out (by simp)); have n1_ := mk_ (Kd.R_mono (Kd.R_keep (IsS82.apart (show IsS82 w0 _ g s0_0 t197 from by repeat (first | (with_reducible first | exact HI0.out | apply IsS82.alloc | apply IsS82.drewN | apply IsS82.drew | apply IsS82.set_1 | refine IsS82.far ?_ NB0_187.out _) | exact HI0.out)) (Kd.ur_ HO192.out) (by decide)) hk (fun _ h => h.2)) (fun _ h => h.1)); have n2_ := mk_ (Kd.R_mono (Kd.R_keep (IsS82.apart (show IsS82 w0 _ g s0_0 t197 from by repeat (first | (with_reducible first | exact HI0.out | apply IsS82.alloc | apply IsS82.drewN | apply IsS82.drew | apply IsS82.set_1 | refine IsS82.far ?_ NB0_187.out _) | exact HI0.out)) (Kd.ur_ HO200.out) (by decide)) hk (fun _ h => h.2)) (fun _ h => h.1)); have n3_ := mk_ (KeepBut.trans (by repeat (first | (with_reducible first | exact HK.out | apply KeepBut.set_ | apply keep_drewN | apply keep_drew | apply keep_alloc | refine keep_far ?_ GW187.out _) | exact HK.out)) hk (.inl rfl)); have n4_ := mk_ (hb); have n5_ := mk_ (hi); clear BK187; clear HO192; clear HO200; clear HK; clear HB; clear HI0; have BK187 := n0_; have HO192 := n1_; have HO200 := n2_; have HK := n3_; have HB := n4_; have HI0 := n5_; clear n0_ n1_ n2_ n3_ n4_ n5_; (try clear hb); (try clear hb2); (try clear hk); (try clear hi); obtain ⟨Ao32, co32, eo32⟩ := Kd.R_slice HO200.out; subst eo32; have p203 : 0 ≤ (t201 : Int) := of_decide_eq_true (by first | (with_reducible assumption) | assumption); have q203 : t201 < (y198.length : Int) := of_decide_eq_true (by first | (with_reducible assumption) | assumption); obtain ⟨ad203, e203, hx203_0⟩ := Kd.at_int (Kd.R_reads' HO200.out).2.2 t201 p203 q203; cases e203; replace p203 := eq_true p203; replace q203 := eq_true q203; clear hA_ A8))
  have n0_ := mk_ (Kd.R_drew HO192.out)
  have n1_ := mk_ (Kd.R_drew HO200.out)
  have n2_ := mk_ (blk_drew BK187.out)
  have n3_ := mk_ (IsS82.drew HI0.out)
  have n4_ := mk_ (keep_drew HK.out)
  have n5_ := mk_ (below_drew1 HB.out)
  clear HO192
  clear HO200
  clear BK187
  clear HI0
  clear HK
  clear HB
  have HO192 := n0_
  have HO200 := n1_
  have BK187 := n2_
  have HI0 := n3_
  have HK := n4_
  have HB := n5_
  clear n0_ n1_ n2_ n3_ n4_ n5_
  refine start_ (n := 17) (S := fun w' => True) (ds := []) #[F_, F_, F_, F_, F_, F_, F_, F_, F_, F_, F_, F_, F_, F_, F_, F_, F_] (by kernel_rfl) rfl rfl trivial (fun hHeld => ?_); refine with_tabW spec_l20Route.tab3 spec_l20Route.bits3 (fun HT_ HW_ => ?_)
  generalize w31.drew = w33 at HO192 HO200 BK187 HI0 HK HB hHeld ⊢
  refine pure_ (i := 0) (N := some 23) (v := ?_) (a' := ?_) #[T_, F_, F_, F_, F_, F_, F_, F_, F_, F_, F_, F_, F_, F_, F_, F_, F_] rfl rfl (any_of HT_.out (by kernel_rfl)) (fun _ _ _ h => h) (Or.inl ⟨by rfl, ?_⟩) ?_ ?_
  rotate_left
  ·intro w'
   go_simp
   with_reducible rfl
  rotate_left
  ·simp only [Act.put, la_, lz_, ls_, i64_w, i32_w]
   rfl
  refine pure_ (i := 1) (N := some 24) (v := ?_) (a' := ?_) #[T_, T_, F_, F_, F_, F_, F_, F_, F_, F_, F_, F_, F_, F_, F_, F_, F_] rfl rfl (any_of HT_.out (by kernel_rfl)) (fun _ _ _ h => h) (Or.inl ⟨by rfl, ?_⟩) ?_ ?_
  rotate_left
  ·intro w'
   go_simp
   with_reducible rfl
  rotate_left
  ·simp only [Act.put, la_, lz_, ls_, i64_w, i32_w]
   rfl
  refine pure_ (i := 2) (N := some 25) (v := ?_) (a' := ?_) #[T_, T_, T_, F_, F_, F_, F_, F_, F_, F_, F_, F_, F_, F_, F_, F_, F_] rfl rfl (any_of HT_.out (by kernel_rfl)) (fun _ _ _ h => h) (Or.inl ⟨by rfl, ?_⟩) ?_ ?_
  rotate_left
  ·intro w'
   go_simp
   with_reducible rfl
  rotate_left
  ·simp only [Act.put, la_, lz_, ls_, i64_w, i32_w]
   rfl
  refine pure_ (i := 3) (N := some 26) (v := ?_) (a' := ?_) #[T_, T_, T_, T_, F_, F_, F_, F_, F_, F_, F_, F_, F_, F_, F_, F_, F_] rfl rfl (any_of HT_.out (by kernel_rfl)) (fun _ _ _ h => h) (Or.inl ⟨by rfl, ?_⟩) ?_ ?_
  rotate_left
  ·intro w'
   go_simp
   with_reducible rfl
  rotate_left
  ·simp only [Act.put, la_, lz_, ls_, i64_w, i32_w]
   rfl
  refine pure_ (i := 4) (N := some 27) (v := ?_) (a' := ?_) #[T_, T_, T_, T_, T_, F_, F_, F_, F_, F_, F_, F_, F_, F_, F_, F_, F_] rfl rfl (any_of HT_.out (by kernel_rfl)) (fun _ _ _ h => h) (Or.inl ⟨by rfl, ?_⟩) ?_ ?_
  rotate_left
  ·intro w'
   go_simp
   with_reducible rfl
  rotate_left
  ·simp only [Act.put, la_, lz_, ls_, i64_w, i32_w]
   rfl
  refine pure_ (i := 5) (N := some 28) (v := ?_) (a' := ?_) #[T_, T_, T_, T_, T_, T_, F_, F_, F_, F_, F_, F_, F_, F_, F_, F_, F_] rfl rfl (any_of HT_.out (by kernel_rfl)) (fun _ _ _ h => h) (Or.inl ⟨by rfl, ?_⟩) ?_ ?_
  rotate_left
  ·intro w'
   go_simp
   with_reducible rfl
  rotate_left
  ·simp only [Act.put, la_, lz_, ls_, i64_w, i32_w]
   rfl
  refine pure_ (i := 6) (N := some 29) (v := ?_) (a' := ?_) #[T_, T_, T_, T_, T_, T_, T_, F_, F_, F_, F_, F_, F_, F_, F_, F_, F_] rfl rfl (any_of HT_.out (by kernel_rfl)) (fun _ _ _ h => h) (Or.inl ⟨by rfl, ?_⟩) ?_ ?_
  rotate_left
  ·intro w'
   go_simp
   with_reducible rfl
  rotate_left
  ·simp only [Act.put, la_, lz_, ls_, i64_w, i32_w]
   rfl
  refine pure_ (i := 7) (N := some 30) (v := ?_) (a' := ?_) #[T_, T_, T_, T_, T_, T_, T_, T_, F_, F_, F_, F_, F_, F_, F_, F_, F_] rfl rfl (any_of HT_.out (by kernel_rfl)) (fun _ _ _ h => h) (Or.inl ⟨by rfl, ?_⟩) ?_ ?_
  rotate_left
  ·intro w'
   go_simp
   with_reducible rfl
  rotate_left
  ·simp only [Act.put, la_, lz_, ls_, i64_w, i32_w]
   rfl
  refine pure_ (i := 8) (N := some 31) (v := ?_) (a' := ?_) #[T_, T_, T_, T_, T_, T_, T_, T_, T_, F_, F_, F_, F_, F_, F_, F_, F_] rfl rfl (any_of HT_.out (by kernel_rfl)) (fun _ _ _ h => h) (Or.inl ⟨by rfl, ?_⟩) ?_ ?_
  rotate_left
  ·intro w'
   go_simp
   with_reducible rfl
  rotate_left
  ·simp only [Act.put, la_, lz_, ls_, i64_w, i32_w]
   rfl
  refine pure_ (i := 10) (N := some 33) (v := ?_) (a' := ?_) #[T_, T_, T_, T_, T_, T_, T_, T_, T_, F_, T_, F_, F_, F_, F_, F_, F_] rfl rfl (any_of HT_.out (by kernel_rfl)) (fun _ _ _ h => h) (Or.inl ⟨by rfl, ?_⟩) ?_ ?_
  rotate_left
  ·intro w'
   go_simp
   with_reducible rfl
  rotate_left
  ·simp only [Act.put, la_, lz_, ls_, i64_w, i32_w]
   rfl
  refine join_ (σ := Nat) 1 #[T_, T_, T_, T_, T_, T_, T_, T_, T_, T_, T_, T_, T_, T_, T_, T_, F_] (fun s_ => [(32, .int .i64 t204), (34, .int .i64 t206), (7, .pointer (some ⟨s_, 0, none⟩)), (35, .int .i64 (wrap64 (t206 * 6))), (36, .int .i64 (wrap64 (4 + (wrap64 (t206 * 6))))), (37, .agg #[.int .i64 (wrap64 ((rd y198 t201) - (Int.tmod (rd y198 t201) (ji13)))), .int .i64 (rd y190 t193), .int .i64 t204, .int .i64 (wrap64 (4 + (wrap64 (t206 * 6))))])]) (fun s_ w' => (Kd.R (Kd.int .i64) 3 w' w.heap.size (fun k_ => some k_ ≠ (.slice (some ad203) y198.length co32 : Value).ownBlock) (.slice (some ad195) y190.length co27) y190) ∧ (Kd.R (Kd.int .i64) 3 w' w.heap.size (fun k_ => some k_ ≠ (.slice (some ad195) y190.length co27 : Value).ownBlock) (.slice (some ad203) y198.length co32) y198) ∧ (w'.heap[gb187]? = some (.cells #[.int .i64 0, .int .i64 0, .int .i64 0, .int .i64 0] 88 (0, 0))) ∧ (w'.heap[s_]? = some (.cells #[.int .i64 0, .int .i64 0, .int .i64 0, .int .i64 0] 88 (0, 0))) ∧ (w.heap.size ≤ s_) ∧ (w0.heap.size ≤ s_) ∧ (g ≠ s_) ∧ (s_ ≠ g) ∧ (gb187 ≠ s_) ∧ (s_ ≠ gb187) ∧ (IsS82 w0 w' g s0_0 t207) ∧ (KeepBut w w' g none) ∧ (Below w0.heap.size w0 w')) ?_ ?_
  rotate_left
  ·intro hCont
   refine two_ (i := 9) (j := 15) (Ni := some 32) (Nj := some 7) #[T_, T_, T_, T_, T_, T_, T_, T_, T_, T_, T_, F_, F_, F_, F_, F_, F_] #[T_, T_, T_, T_, T_, T_, T_, T_, T_, F_, T_, F_, F_, F_, F_, T_, F_] rfl rfl rfl rfl (two_of HT_.out (by kernel_rfl)) (by decide) (by decide) (fun K hK => ?_) (fun K hK => ?_)
   ·skip
    refine goes_ Try.func46 (by kernel_rfl) rfl #[.pointer (some ⟨g, 0, none⟩), .int .i64 3] (by rfl) rfl rfl (by (try simp only [lm_, lo_, ln_]); first | done | rfl | (simp only [List.length_drop, List.length_take]; rfl)) ?_
    with_reducible refine (spec_l20Rd_pick.calls k g s0_0 t202 3 t204 t205 w0 _ ?side1 ?side2 A15.out).mono ?_
    (case side1 => repeat (first | (with_reducible first | exact HI0.out | apply IsS82.alloc | apply IsS82.drewN | apply IsS82.drew | apply IsS82.set_1 | refine IsS82.far ?_ NB0_187.out _) | exact HI0.out))
    (case side2 => repeat (first | (with_reducible first | exact HB.out | apply na_ | apply nn_ | apply nw_ | refine bs_ ?_ (IsS82.ge HI0.out) | refine bs_ ?_ GE187.out) | exact HB.out))
    rintro e w34 ⟨rfl, hi, hb, hk⟩
    refine ⟨_, rfl, ?_⟩
    have n0_ := mk_ (KeepBut.blk hk (g' := gb187) (o := .cells #[.int .i64 0, .int .i64 0, .int .i64 0, .int .i64 0] 88 (0, 0)) (u_ BK187.out) NB187_0.out (by simp))
    have n1_ := mk_ (Kd.R_mono (Kd.R_keep (IsS82.apart (show IsS82 w0 _ g s0_0 t202 from by repeat (first | (with_reducible first | exact HI0.out | apply IsS82.alloc | apply IsS82.drewN | apply IsS82.drew | apply IsS82.set_1 | refine IsS82.far ?_ NB0_187.out _) | exact HI0.out)) (Kd.ur_ HO192.out) (by decide)) hk (fun _ h => h.2)) (fun _ h => h.1))
    have n2_ := mk_ (Kd.R_mono (Kd.R_keep (IsS82.apart (show IsS82 w0 _ g s0_0 t202 from by repeat (first | (with_reducible first | exact HI0.out | apply IsS82.alloc | apply IsS82.drewN | apply IsS82.drew | apply IsS82.set_1 | refine IsS82.far ?_ NB0_187.out _) | exact HI0.out)) (Kd.ur_ HO200.out) (by decide)) hk (fun _ h => h.2)) (fun _ h => h.1))
    have n3_ := mk_ (KeepBut.trans (by repeat (first | (with_reducible first | exact HK.out | apply KeepBut.set_ | apply keep_drewN | apply keep_drew | apply keep_alloc | refine keep_far ?_ GW187.out _) | exact HK.out)) hk (.inl rfl))
    have n4_ := mk_ (hb)
    have n5_ := mk_ (hi)
    clear BK187
    clear HO192
    clear HO200
    clear HK
    clear HB
    clear HI0
    have BK187 := n0_
    have HO192 := n1_
    have HO200 := n2_
    have HK := n3_
    have HB := n4_
    have HI0 := n5_
    clear n0_ n1_ n2_ n3_ n4_ n5_
    (try clear hb)
    (try clear hb2)
    (try clear hk)
    (try clear hi)
    refine hK.out _ _ trivial (fun hHeld => ?_)
    clear hK K
    refine norm_ (a' := ?_) ?_ ?_
    rotate_left
    ·show Act.put _ (some 32) _ = _
     simp only [Act.put, la_, lz_, ls_, i64_w, i32_w]
     rfl
    refine two_ (i := 11) (j := 15) (Ni := some 34) (Nj := some 7) #[T_, T_, T_, T_, T_, T_, T_, T_, T_, T_, T_, T_, F_, F_, F_, F_, F_] #[T_, T_, T_, T_, T_, T_, T_, T_, T_, T_, T_, F_, F_, F_, F_, T_, F_] rfl rfl rfl rfl (two_of HT_.out (by kernel_rfl)) (by decide) (by decide) (fun K hK => ?_) (fun K hK => ?_)
    ·skip
     refine goes_ Try.func46 (by kernel_rfl) rfl #[.pointer (some ⟨g, 0, none⟩), .int .i64 3] (by rfl) rfl rfl (by (try simp only [lm_, lo_, ln_]); first | done | rfl | (simp only [List.length_drop, List.length_take]; rfl)) ?_
     with_reducible refine (spec_l20Rd_pick.calls k g s0_0 t205 3 t206 t207 w0 _ ?side1 ?side2 A16.out).mono ?_
     (case side1 => repeat (first | (with_reducible first | exact HI0.out | apply IsS82.alloc | apply IsS82.drewN | apply IsS82.drew | apply IsS82.set_1 | refine IsS82.far ?_ NB0_187.out _) | exact HI0.out))
     (case side2 => repeat (first | (with_reducible first | exact HB.out | apply na_ | apply nn_ | apply nw_ | refine bs_ ?_ (IsS82.ge HI0.out) | refine bs_ ?_ GE187.out) | exact HB.out))
     rintro e w35 ⟨rfl, hi, hb, hk⟩
     refine ⟨_, rfl, ?_⟩
     have n0_ := mk_ (KeepBut.blk hk (g' := gb187) (o := .cells #[.int .i64 0, .int .i64 0, .int .i64 0, .int .i64 0] 88 (0, 0)) (u_ BK187.out) NB187_0.out (by simp))
     have n1_ := mk_ (Kd.R_mono (Kd.R_keep (IsS82.apart (show IsS82 w0 _ g s0_0 t205 from by repeat (first | (with_reducible first | exact HI0.out | apply IsS82.alloc | apply IsS82.drewN | apply IsS82.drew | apply IsS82.set_1 | refine IsS82.far ?_ NB0_187.out _) | exact HI0.out)) (Kd.ur_ HO192.out) (by decide)) hk (fun _ h => h.2)) (fun _ h => h.1))
     have n2_ := mk_ (Kd.R_mono (Kd.R_keep (IsS82.apart (show IsS82 w0 _ g s0_0 t205 from by repeat (first | (with_reducible first | exact HI0.out | apply IsS82.alloc | apply IsS82.drewN | apply IsS82.drew | apply IsS82.set_1 | refine IsS82.far ?_ NB0_187.out _) | exact HI0.out)) (Kd.ur_ HO200.out) (by decide)) hk (fun _ h => h.2)) (fun _ h => h.1))
     have n3_ := mk_ (KeepBut.trans (by repeat (first | (with_reducible first | exact HK.out | apply KeepBut.set_ | apply keep_drewN | apply keep_drew | apply keep_alloc | refine keep_far ?_ GW187.out _) | exact HK.out)) hk (.inl rfl))
     have n4_ := mk_ (hb)
     have n5_ := mk_ (hi)
     clear BK187
     clear HO192
     clear HO200
     clear HK
     clear HB
     clear HI0
     have BK187 := n0_
     have HO192 := n1_
     have HO200 := n2_
     have HK := n3_
     have HB := n4_
     have HI0 := n5_
     clear n0_ n1_ n2_ n3_ n4_ n5_
     (try clear hb)
     (try clear hb2)
     (try clear hk)
     (try clear hi)
     refine hK.out _ _ trivial (fun hHeld => ?_)
     clear hK K
     refine norm_ (a' := ?_) ?_ ?_
     rotate_left
     ·show Act.put _ (some 34) _ = _
      simp only [Act.put, la_, lz_, ls_, i64_w, i32_w]
      rfl
     refine pure_ (i := 12) (N := some 35) (v := ?_) (a' := ?_) #[T_, T_, T_, T_, T_, T_, T_, T_, T_, T_, T_, T_, T_, F_, F_, F_, F_] rfl rfl (any_of HT_.out (by kernel_rfl)) (fun _ _ _ h => h) (Or.inl ⟨by rfl, ?_⟩) ?_ ?_
     rotate_left
     ·intro w'
      go_simp
      with_reducible rfl
     rotate_left
     ·simp only [Act.put, la_, lz_, ls_, i64_w, i32_w]
      rfl
     refine pure_ (i := 13) (N := some 36) (v := ?_) (a' := ?_) #[T_, T_, T_, T_, T_, T_, T_, T_, T_, T_, T_, T_, T_, T_, F_, F_, F_] rfl rfl (any_of HT_.out (by kernel_rfl)) (fun _ _ _ h => h) (Or.inl ⟨by rfl, ?_⟩) ?_ ?_
     rotate_left
     ·intro w'
      go_simp
      with_reducible rfl
     rotate_left
     ·simp only [Act.put, la_, lz_, ls_, i64_w, i32_w]
      rfl
     refine pure_ (i := 14) (N := some 37) (v := ?_) (a' := ?_) #[T_, T_, T_, T_, T_, T_, T_, T_, T_, T_, T_, T_, T_, T_, T_, F_, F_] rfl rfl (any_of HT_.out (by kernel_rfl)) (fun _ _ _ h => h) (Or.inl ⟨by rfl, ?_⟩) ?_ ?_
     rotate_left
     ·intro w'
      go_simp
      with_reducible rfl
     rotate_left
     ·simp only [Act.put, la_, lz_, ls_, i64_w, i32_w]
      rfl
     refine one_ (i := 15) (N := some 7) #[T_, T_, T_, T_, T_, T_, T_, T_, T_, T_, T_, T_, T_, T_, T_, T_, F_] rfl rfl (one_of HT_.out (by kernel_rfl)) (by decide) (fun K hK => ?_)
     refine box_step ?hg (N := 7) ?hd (cs := #[.int .i64 0, .int .i64 0, .int .i64 0, .int .i64 0]) (t := 88) ?hr ?_; (case hd => rfl); (case hg => rfl); (case hr => first | (go_simp; done) | (go_simp; rfl))
     intro gb208 hg w36 hbox hb
     have n0_ := mk_ (Kd.R_below (Kd.ur_ HO192.out) hb)
     have n1_ := mk_ (Kd.R_below (Kd.ur_ HO200.out) hb)
     have n2_ := mk_ (IsS82.below (by repeat (first | (with_reducible first | exact HI0.out | apply IsS82.alloc | apply IsS82.drewN | apply IsS82.drew | apply IsS82.set_1 | refine IsS82.far ?_ NB0_187.out _) | exact HI0.out)) hb)
     have n3_ := mk_ (blk_below (u_ BK187.out) hb)
     have n4_ := mk_ (KeepBut.trans (by repeat (first | (with_reducible first | exact HK.out | apply KeepBut.set_ | apply keep_drewN | apply keep_drew | apply keep_alloc | refine keep_far ?_ GW187.out _) | exact HK.out)) (KeepBut.of_below hb g none) (.inl rfl))
     have n5_ := mk_ (below_step (by repeat (first | (with_reducible first | exact HB.out | apply na_ | apply nn_ | apply nw_ | refine bs_ ?_ (IsS82.ge HI0.out) | refine bs_ ?_ GE187.out) | exact HB.out)) hb)
     have n6_ := mk_ (hbox)
     have n7_ := mk_ ((by rw [hg]; exact (keep_size (w := w) (g := g) (row := none) (by repeat (first | (with_reducible first | exact HK.out | apply KeepBut.set_ | apply keep_drewN | apply keep_drew | apply keep_alloc | refine keep_far ?_ GW187.out _) | exact HK.out))) : w.heap.size ≤ gb208))
     have n8_ := mk_ ((Nat.le_trans HW0.out (by rw [hg]; exact (keep_size (w := w) (g := g) (row := none) (by repeat (first | (with_reducible first | exact HK.out | apply KeepBut.set_ | apply keep_drewN | apply keep_drew | apply keep_alloc | refine keep_far ?_ GW187.out _) | exact HK.out))) : w.heap.size ≤ gb208) : w0.heap.size ≤ gb208))
     have n9_ := mk_ ((by rw [hg]; exact Nat.ne_of_lt (blk_lt (u_ BK187.out)) : gb187 ≠ gb208))
     have n10_ := mk_ ((by rw [hg]; exact Nat.ne_of_gt (blk_lt (u_ BK187.out)) : gb208 ≠ gb187))
     have n11_ := mk_ ((by rw [hg]; exact Nat.ne_of_lt (IsS82.lt (show IsS82 w0 _ g s0_0 t207 from by repeat (first | (with_reducible first | exact HI0.out | apply IsS82.alloc | apply IsS82.drewN | apply IsS82.drew | apply IsS82.set_1 | refine IsS82.far ?_ NB0_187.out _) | exact HI0.out))) : g ≠ gb208))
     have n12_ := mk_ ((by rw [hg]; exact Nat.ne_of_gt (IsS82.lt (show IsS82 w0 _ g s0_0 t207 from by repeat (first | (with_reducible first | exact HI0.out | apply IsS82.alloc | apply IsS82.drewN | apply IsS82.drew | apply IsS82.set_1 | refine IsS82.far ?_ NB0_187.out _) | exact HI0.out))) : gb208 ≠ g))
     clear HO192
     clear HO200
     clear HI0
     clear BK187
     clear HK
     clear HB
     have HO192 := n0_
     have HO200 := n1_
     have HI0 := n2_
     have BK187 := n3_
     have HK := n4_
     have HB := n5_
     have BK208 := n6_
     have GW208 := n7_
     have GE208 := ge_ n8_.out
     have NB187_208 := nq_ n9_.out
     have NB208_187 := nq_ n10_.out
     have NB0_208 := nq_ n11_.out
     have NB208_0 := nq_ n12_.out
     clear n0_ n1_ n2_ n3_ n4_ n5_ n6_ n7_ n8_ n9_ n10_ n11_ n12_
     clear hb hbox hg
     refine hK.out _ _ trivial (fun hHeld => ?_)
     clear hK K
     refine norm_ (a' := ?_) ?_ ?_
     rotate_left
     ·show Act.put _ (some 7) _ = _
      simp only [Act.put, la_, lz_, ls_, i64_w, i32_w]
      rfl
     exact norm_ (by simp only [putAll, Act.put, la_, lz_, ls_]) (hCont (gb208) _ ⟨(by (with_reducible repeat (first | apply Kd.R_alloc | apply Kd.R_drewN | apply Kd.R_drew)); exact Kd.R_mono HO192.out (fun _ hk => hk.2)), (by (with_reducible repeat (first | apply Kd.R_alloc | apply Kd.R_drewN | apply Kd.R_drew)); exact Kd.R_mono HO200.out (fun _ hk => hk.2)), (u_ BK187.out), (u_ BK208.out), GW208.out, GE208.out, NB0_208.out, NB208_0.out, NB187_208.out, NB208_187.out, (by repeat (first | (with_reducible first | exact HI0.out | apply IsS82.alloc | apply IsS82.drewN | apply IsS82.drew | apply IsS82.set_1 | refine IsS82.far ?_ NB0_187.out _ | refine IsS82.far ?_ NB0_208.out _) | exact HI0.out)), (by repeat (first | (with_reducible first | exact HK.out | apply KeepBut.set_ | apply keep_drewN | apply keep_drew | apply keep_alloc | refine keep_far ?_ GW187.out _ | refine keep_far ?_ GW208.out _) | exact HK.out)), (by repeat (first | (with_reducible first | exact HB.out | apply na_ | apply nn_ | apply nw_ | refine bs_ ?_ (IsS82.ge HI0.out) | refine bs_ ?_ GE187.out | refine bs_ ?_ GE208.out) | exact HB.out))⟩)
    skip
    refine box_step ?hg (N := 7) ?hd (cs := #[.int .i64 0, .int .i64 0, .int .i64 0, .int .i64 0]) (t := 88) ?hr ?_; (case hd => rfl); (case hg => rfl); (case hr => first | (go_simp; done) | (go_simp; rfl))
    intro gb208 hg w35 hbox hb
    have n0_ := mk_ (Kd.R_below (Kd.ur_ HO192.out) hb)
    have n1_ := mk_ (Kd.R_below (Kd.ur_ HO200.out) hb)
    have n2_ := mk_ (IsS82.below (by repeat (first | (with_reducible first | exact HI0.out | apply IsS82.alloc | apply IsS82.drewN | apply IsS82.drew | apply IsS82.set_1 | refine IsS82.far ?_ NB0_187.out _) | exact HI0.out)) hb)
    have n3_ := mk_ (blk_below (u_ BK187.out) hb)
    have n4_ := mk_ (KeepBut.trans (by repeat (first | (with_reducible first | exact HK.out | apply KeepBut.set_ | apply keep_drewN | apply keep_drew | apply keep_alloc | refine keep_far ?_ GW187.out _) | exact HK.out)) (KeepBut.of_below hb g none) (.inl rfl))
    have n5_ := mk_ (below_step (by repeat (first | (with_reducible first | exact HB.out | apply na_ | apply nn_ | apply nw_ | refine bs_ ?_ (IsS82.ge HI0.out) | refine bs_ ?_ GE187.out) | exact HB.out)) hb)
    have n6_ := mk_ (hbox)
    have n7_ := mk_ ((by rw [hg]; exact (keep_size (w := w) (g := g) (row := none) (by repeat (first | (with_reducible first | exact HK.out | apply KeepBut.set_ | apply keep_drewN | apply keep_drew | apply keep_alloc | refine keep_far ?_ GW187.out _) | exact HK.out))) : w.heap.size ≤ gb208))
    have n8_ := mk_ ((Nat.le_trans HW0.out (by rw [hg]; exact (keep_size (w := w) (g := g) (row := none) (by repeat (first | (with_reducible first | exact HK.out | apply KeepBut.set_ | apply keep_drewN | apply keep_drew | apply keep_alloc | refine keep_far ?_ GW187.out _) | exact HK.out))) : w.heap.size ≤ gb208) : w0.heap.size ≤ gb208))
    have n9_ := mk_ ((by rw [hg]; exact Nat.ne_of_lt (blk_lt (u_ BK187.out)) : gb187 ≠ gb208))
    have n10_ := mk_ ((by rw [hg]; exact Nat.ne_of_gt (blk_lt (u_ BK187.out)) : gb208 ≠ gb187))
    have n11_ := mk_ ((by rw [hg]; exact Nat.ne_of_lt (IsS82.lt (show IsS82 w0 _ g s0_0 t205 from by repeat (first | (with_reducible first | exact HI0.out | apply IsS82.alloc | apply IsS82.drewN | apply IsS82.drew | apply IsS82.set_1 | refine IsS82.far ?_ NB0_187.out _) | exact HI0.out))) : g ≠ gb208))
    have n12_ := mk_ ((by rw [hg]; exact Nat.ne_of_gt (IsS82.lt (show IsS82 w0 _ g s0_0 t205 from by repeat (first | (with_reducible first | exact HI0.out | apply IsS82.alloc | apply IsS82.drewN | apply IsS82.drew | apply IsS82.set_1 | refine IsS82.far ?_ NB0_187.out _) | exact HI0.out))) : gb208 ≠ g))
    clear HO192
    clear HO200
    clear HI0
    clear BK187
    clear HK
    clear HB
    have HO192 := n0_
    have HO200 := n1_
    have HI0 := n2_
    have BK187 := n3_
    have HK := n4_
    have HB := n5_
    have BK208 := n6_
    have GW208 := n7_
    have GE208 := ge_ n8_.out
    have NB187_208 := nq_ n9_.out
    have NB208_187 := nq_ n10_.out
    have NB0_208 := nq_ n11_.out
    have NB208_0 := nq_ n12_.out
    clear n0_ n1_ n2_ n3_ n4_ n5_ n6_ n7_ n8_ n9_ n10_ n11_ n12_
    clear hb hbox hg
    refine hK.out _ _ trivial (fun hHeld => ?_)
    clear hK K
    refine norm_ (a' := ?_) ?_ ?_
    rotate_left
    ·show Act.put _ (some 7) _ = _
     simp only [Act.put, la_, lz_, ls_, i64_w, i32_w]
     rfl
    refine one_ (i := 11) (N := some 34) #[T_, T_, T_, T_, T_, T_, T_, T_, T_, T_, T_, T_, F_, F_, F_, T_, F_] rfl rfl (one_of HT_.out (by kernel_rfl)) (by decide) (fun K hK => ?_)
    refine goes_ Try.func46 (by kernel_rfl) rfl #[.pointer (some ⟨g, 0, none⟩), .int .i64 3] (by rfl) rfl rfl (by (try simp only [lm_, lo_, ln_]); first | done | rfl | (simp only [List.length_drop, List.length_take]; rfl)) ?_
    with_reducible refine (spec_l20Rd_pick.calls k g s0_0 t205 3 t206 t207 w0 _ ?side1 ?side2 A16.out).mono ?_
    (case side1 => repeat (first | (with_reducible first | exact HI0.out | apply IsS82.alloc | apply IsS82.drewN | apply IsS82.drew | apply IsS82.set_1 | refine IsS82.far ?_ NB0_187.out _ | refine IsS82.far ?_ NB0_208.out _) | exact HI0.out))
    (case side2 => repeat (first | (with_reducible first | exact HB.out | apply na_ | apply nn_ | apply nw_ | refine bs_ ?_ (IsS82.ge HI0.out) | refine bs_ ?_ GE187.out | refine bs_ ?_ GE208.out) | exact HB.out))
    rintro e w36 ⟨rfl, hi, hb, hk⟩
    refine ⟨_, rfl, ?_⟩
    have n0_ := mk_ (KeepBut.blk hk (g' := gb187) (o := .cells #[.int .i64 0, .int .i64 0, .int .i64 0, .int .i64 0] 88 (0, 0)) (u_ BK187.out) NB187_0.out (by simp))
    have n1_ := mk_ (Kd.R_mono (Kd.R_keep (IsS82.apart (show IsS82 w0 _ g s0_0 t205 from by repeat (first | (with_reducible first | exact HI0.out | apply IsS82.alloc | apply IsS82.drewN | apply IsS82.drew | apply IsS82.set_1 | refine IsS82.far ?_ NB0_187.out _ | refine IsS82.far ?_ NB0_208.out _) | exact HI0.out)) (Kd.ur_ HO192.out) (by decide)) hk (fun _ h => h.2)) (fun _ h => h.1))
    have n2_ := mk_ (Kd.R_mono (Kd.R_keep (IsS82.apart (show IsS82 w0 _ g s0_0 t205 from by repeat (first | (with_reducible first | exact HI0.out | apply IsS82.alloc | apply IsS82.drewN | apply IsS82.drew | apply IsS82.set_1 | refine IsS82.far ?_ NB0_187.out _ | refine IsS82.far ?_ NB0_208.out _) | exact HI0.out)) (Kd.ur_ HO200.out) (by decide)) hk (fun _ h => h.2)) (fun _ h => h.1))
    have n3_ := mk_ (KeepBut.blk hk (g' := gb208) (o := .cells #[.int .i64 0, .int .i64 0, .int .i64 0, .int .i64 0] 88 (0, 0)) (u_ BK208.out) NB208_0.out (by simp))
    have n4_ := mk_ (KeepBut.trans (by repeat (first | (with_reducible first | exact HK.out | apply KeepBut.set_ | apply keep_drewN | apply keep_drew | apply keep_alloc | refine keep_far ?_ GW187.out _ | refine keep_far ?_ GW208.out _) | exact HK.out)) hk (.inl rfl))
    have n5_ := mk_ (hb)
    have n6_ := mk_ (hi)
    clear BK187
    clear HO192
    clear HO200
    clear BK208
    clear HK
    clear HB
    clear HI0
    have BK187 := n0_
    have HO192 := n1_
    have HO200 := n2_
    have BK208 := n3_
    have HK := n4_
    have HB := n5_
    have HI0 := n6_
    clear n0_ n1_ n2_ n3_ n4_ n5_ n6_
    (try clear hb)
    (try clear hb2)
    (try clear hk)
    (try clear hi)
    refine hK.out _ _ trivial (fun hHeld => ?_)
    clear hK K
    refine norm_ (a' := ?_) ?_ ?_
    rotate_left
    ·show Act.put _ (some 34) _ = _
     simp only [Act.put, la_, lz_, ls_, i64_w, i32_w]
     rfl
    refine pure_ (i := 12) (N := some 35) (v := ?_) (a' := ?_) #[T_, T_, T_, T_, T_, T_, T_, T_, T_, T_, T_, T_, T_, F_, F_, T_, F_] rfl rfl (any_of HT_.out (by kernel_rfl)) (fun _ _ _ h => h) (Or.inl ⟨by rfl, ?_⟩) ?_ ?_
    rotate_left
    ·intro w'
     go_simp
     with_reducible rfl
    rotate_left
    ·simp only [Act.put, la_, lz_, ls_, i64_w, i32_w]
     rfl
    refine pure_ (i := 13) (N := some 36) (v := ?_) (a' := ?_) #[T_, T_, T_, T_, T_, T_, T_, T_, T_, T_, T_, T_, T_, T_, F_, T_, F_] rfl rfl (any_of HT_.out (by kernel_rfl)) (fun _ _ _ h => h) (Or.inl ⟨by rfl, ?_⟩) ?_ ?_
    rotate_left
    ·intro w'
     go_simp
     with_reducible rfl
    rotate_left
    ·simp only [Act.put, la_, lz_, ls_, i64_w, i32_w]
     rfl
    refine pure_ (i := 14) (N := some 37) (v := ?_) (a' := ?_) #[T_, T_, T_, T_, T_, T_, T_, T_, T_, T_, T_, T_, T_, T_, T_, T_, F_] rfl rfl (any_of HT_.out (by kernel_rfl)) (fun _ _ _ h => h) (Or.inl ⟨by rfl, ?_⟩) ?_ ?_
    rotate_left
    ·intro w'
     go_simp
     with_reducible rfl
    rotate_left
    ·simp only [Act.put, la_, lz_, ls_, i64_w, i32_w]
     rfl
    exact norm_ (by simp only [putAll, Act.put, la_, lz_, ls_]) (hCont (gb208) _ ⟨(by (with_reducible repeat (first | apply Kd.R_alloc | apply Kd.R_drewN | apply Kd.R_drew)); exact Kd.R_mono HO192.out (fun _ hk => hk.2)), (by (with_reducible repeat (first | apply Kd.R_alloc | apply Kd.R_drewN | apply Kd.R_drew)); exact Kd.R_mono HO200.out (fun _ hk => hk.2)), (u_ BK187.out), (u_ BK208.out), GW208.out, GE208.out, NB0_208.out, NB208_0.out, NB187_208.out, NB208_187.out, (by repeat (first | (with_reducible first | exact HI0.out | apply IsS82.alloc | apply IsS82.drewN | apply IsS82.drew | apply IsS82.set_1 | refine IsS82.far ?_ NB0_187.out _ | refine IsS82.far ?_ NB0_208.out _) | exact HI0.out)), (by repeat (first | (with_reducible first | exact HK.out | apply KeepBut.set_ | apply keep_drewN | apply keep_drew | apply keep_alloc | refine keep_far ?_ GW187.out _ | refine keep_far ?_ GW208.out _) | exact HK.out)), (by repeat (first | (with_reducible first | exact HB.out | apply na_ | apply nn_ | apply nw_ | refine bs_ ?_ (IsS82.ge HI0.out) | refine bs_ ?_ GE187.out | refine bs_ ?_ GE208.out) | exact HB.out))⟩)
   skip
   refine box_step ?hg (N := 7) ?hd (cs := #[.int .i64 0, .int .i64 0, .int .i64 0, .int .i64 0]) (t := 88) ?hr ?_; (case hd => rfl); (case hg => rfl); (case hr => first | (go_simp; done) | (go_simp; rfl))
   intro gb208 hg w34 hbox hb
   have n0_ := mk_ (Kd.R_below (Kd.ur_ HO192.out) hb)
   have n1_ := mk_ (Kd.R_below (Kd.ur_ HO200.out) hb)
   have n2_ := mk_ (IsS82.below (by repeat (first | (with_reducible first | exact HI0.out | apply IsS82.alloc | apply IsS82.drewN | apply IsS82.drew | apply IsS82.set_1 | refine IsS82.far ?_ NB0_187.out _) | exact HI0.out)) hb)
   have n3_ := mk_ (blk_below (u_ BK187.out) hb)
   have n4_ := mk_ (KeepBut.trans (by repeat (first | (with_reducible first | exact HK.out | apply KeepBut.set_ | apply keep_drewN | apply keep_drew | apply keep_alloc | refine keep_far ?_ GW187.out _) | exact HK.out)) (KeepBut.of_below hb g none) (.inl rfl))
   have n5_ := mk_ (below_step (by repeat (first | (with_reducible first | exact HB.out | apply na_ | apply nn_ | apply nw_ | refine bs_ ?_ (IsS82.ge HI0.out) | refine bs_ ?_ GE187.out) | exact HB.out)) hb)
   have n6_ := mk_ (hbox)
   have n7_ := mk_ ((by rw [hg]; exact (keep_size (w := w) (g := g) (row := none) (by repeat (first | (with_reducible first | exact HK.out | apply KeepBut.set_ | apply keep_drewN | apply keep_drew | apply keep_alloc | refine keep_far ?_ GW187.out _) | exact HK.out))) : w.heap.size ≤ gb208))
   have n8_ := mk_ ((Nat.le_trans HW0.out (by rw [hg]; exact (keep_size (w := w) (g := g) (row := none) (by repeat (first | (with_reducible first | exact HK.out | apply KeepBut.set_ | apply keep_drewN | apply keep_drew | apply keep_alloc | refine keep_far ?_ GW187.out _) | exact HK.out))) : w.heap.size ≤ gb208) : w0.heap.size ≤ gb208))
   have n9_ := mk_ ((by rw [hg]; exact Nat.ne_of_lt (blk_lt (u_ BK187.out)) : gb187 ≠ gb208))
   have n10_ := mk_ ((by rw [hg]; exact Nat.ne_of_gt (blk_lt (u_ BK187.out)) : gb208 ≠ gb187))
   have n11_ := mk_ ((by rw [hg]; exact Nat.ne_of_lt (IsS82.lt (show IsS82 w0 _ g s0_0 t202 from by repeat (first | (with_reducible first | exact HI0.out | apply IsS82.alloc | apply IsS82.drewN | apply IsS82.drew | apply IsS82.set_1 | refine IsS82.far ?_ NB0_187.out _) | exact HI0.out))) : g ≠ gb208))
   have n12_ := mk_ ((by rw [hg]; exact Nat.ne_of_gt (IsS82.lt (show IsS82 w0 _ g s0_0 t202 from by repeat (first | (with_reducible first | exact HI0.out | apply IsS82.alloc | apply IsS82.drewN | apply IsS82.drew | apply IsS82.set_1 | refine IsS82.far ?_ NB0_187.out _) | exact HI0.out))) : gb208 ≠ g))
   clear HO192
   clear HO200
   clear HI0
   clear BK187
   clear HK
   clear HB
   have HO192 := n0_
   have HO200 := n1_
   have HI0 := n2_
   have BK187 := n3_
   have HK := n4_
   have HB := n5_
   have BK208 := n6_
   have GW208 := n7_
   have GE208 := ge_ n8_.out
   have NB187_208 := nq_ n9_.out
   have NB208_187 := nq_ n10_.out
   have NB0_208 := nq_ n11_.out
   have NB208_0 := nq_ n12_.out
   clear n0_ n1_ n2_ n3_ n4_ n5_ n6_ n7_ n8_ n9_ n10_ n11_ n12_
   clear hb hbox hg
   refine hK.out _ _ trivial (fun hHeld => ?_)
   clear hK K
   refine norm_ (a' := ?_) ?_ ?_
   rotate_left
   ·show Act.put _ (some 7) _ = _
    simp only [Act.put, la_, lz_, ls_, i64_w, i32_w]
    rfl
   refine one_ (i := 9) (N := some 32) #[T_, T_, T_, T_, T_, T_, T_, T_, T_, T_, T_, F_, F_, F_, F_, T_, F_] rfl rfl (one_of HT_.out (by kernel_rfl)) (by decide) (fun K hK => ?_)
   refine goes_ Try.func46 (by kernel_rfl) rfl #[.pointer (some ⟨g, 0, none⟩), .int .i64 3] (by rfl) rfl rfl (by (try simp only [lm_, lo_, ln_]); first | done | rfl | (simp only [List.length_drop, List.length_take]; rfl)) ?_
   with_reducible refine (spec_l20Rd_pick.calls k g s0_0 t202 3 t204 t205 w0 _ ?side1 ?side2 A15.out).mono ?_
   (case side1 => repeat (first | (with_reducible first | exact HI0.out | apply IsS82.alloc | apply IsS82.drewN | apply IsS82.drew | apply IsS82.set_1 | refine IsS82.far ?_ NB0_187.out _ | refine IsS82.far ?_ NB0_208.out _) | exact HI0.out))
   (case side2 => repeat (first | (with_reducible first | exact HB.out | apply na_ | apply nn_ | apply nw_ | refine bs_ ?_ (IsS82.ge HI0.out) | refine bs_ ?_ GE187.out | refine bs_ ?_ GE208.out) | exact HB.out))
   rintro e w35 ⟨rfl, hi, hb, hk⟩
   refine ⟨_, rfl, ?_⟩
   have n0_ := mk_ (KeepBut.blk hk (g' := gb187) (o := .cells #[.int .i64 0, .int .i64 0, .int .i64 0, .int .i64 0] 88 (0, 0)) (u_ BK187.out) NB187_0.out (by simp))
   have n1_ := mk_ (Kd.R_mono (Kd.R_keep (IsS82.apart (show IsS82 w0 _ g s0_0 t202 from by repeat (first | (with_reducible first | exact HI0.out | apply IsS82.alloc | apply IsS82.drewN | apply IsS82.drew | apply IsS82.set_1 | refine IsS82.far ?_ NB0_187.out _ | refine IsS82.far ?_ NB0_208.out _) | exact HI0.out)) (Kd.ur_ HO192.out) (by decide)) hk (fun _ h => h.2)) (fun _ h => h.1))
   have n2_ := mk_ (Kd.R_mono (Kd.R_keep (IsS82.apart (show IsS82 w0 _ g s0_0 t202 from by repeat (first | (with_reducible first | exact HI0.out | apply IsS82.alloc | apply IsS82.drewN | apply IsS82.drew | apply IsS82.set_1 | refine IsS82.far ?_ NB0_187.out _ | refine IsS82.far ?_ NB0_208.out _) | exact HI0.out)) (Kd.ur_ HO200.out) (by decide)) hk (fun _ h => h.2)) (fun _ h => h.1))
   have n3_ := mk_ (KeepBut.blk hk (g' := gb208) (o := .cells #[.int .i64 0, .int .i64 0, .int .i64 0, .int .i64 0] 88 (0, 0)) (u_ BK208.out) NB208_0.out (by simp))
   have n4_ := mk_ (KeepBut.trans (by repeat (first | (with_reducible first | exact HK.out | apply KeepBut.set_ | apply keep_drewN | apply keep_drew | apply keep_alloc | refine keep_far ?_ GW187.out _ | refine keep_far ?_ GW208.out _) | exact HK.out)) hk (.inl rfl))
   have n5_ := mk_ (hb)
   have n6_ := mk_ (hi)
   clear BK187
   clear HO192
   clear HO200
   clear BK208
   clear HK
   clear HB
   clear HI0
   have BK187 := n0_
   have HO192 := n1_
   have HO200 := n2_
   have BK208 := n3_
   have HK := n4_
   have HB := n5_
   have HI0 := n6_
   clear n0_ n1_ n2_ n3_ n4_ n5_ n6_
   (try clear hb)
   (try clear hb2)
   (try clear hk)
   (try clear hi)
   refine hK.out _ _ trivial (fun hHeld => ?_)
   clear hK K
   refine norm_ (a' := ?_) ?_ ?_
   rotate_left
   ·show Act.put _ (some 32) _ = _
    simp only [Act.put, la_, lz_, ls_, i64_w, i32_w]
    rfl
   refine one_ (i := 11) (N := some 34) #[T_, T_, T_, T_, T_, T_, T_, T_, T_, T_, T_, T_, F_, F_, F_, T_, F_] rfl rfl (one_of HT_.out (by kernel_rfl)) (by decide) (fun K hK => ?_)
   refine goes_ Try.func46 (by kernel_rfl) rfl #[.pointer (some ⟨g, 0, none⟩), .int .i64 3] (by rfl) rfl rfl (by (try simp only [lm_, lo_, ln_]); first | done | rfl | (simp only [List.length_drop, List.length_take]; rfl)) ?_
   with_reducible refine (spec_l20Rd_pick.calls k g s0_0 t205 3 t206 t207 w0 _ ?side1 ?side2 A16.out).mono ?_
   (case side1 => repeat (first | (with_reducible first | exact HI0.out | apply IsS82.alloc | apply IsS82.drewN | apply IsS82.drew | apply IsS82.set_1 | refine IsS82.far ?_ NB0_187.out _ | refine IsS82.far ?_ NB0_208.out _) | exact HI0.out))
   (case side2 => repeat (first | (with_reducible first | exact HB.out | apply na_ | apply nn_ | apply nw_ | refine bs_ ?_ (IsS82.ge HI0.out) | refine bs_ ?_ GE187.out | refine bs_ ?_ GE208.out) | exact HB.out))
   rintro e w36 ⟨rfl, hi, hb, hk⟩
   refine ⟨_, rfl, ?_⟩
   have n0_ := mk_ (KeepBut.blk hk (g' := gb187) (o := .cells #[.int .i64 0, .int .i64 0, .int .i64 0, .int .i64 0] 88 (0, 0)) (u_ BK187.out) NB187_0.out (by simp))
   have n1_ := mk_ (Kd.R_mono (Kd.R_keep (IsS82.apart (show IsS82 w0 _ g s0_0 t205 from by repeat (first | (with_reducible first | exact HI0.out | apply IsS82.alloc | apply IsS82.drewN | apply IsS82.drew | apply IsS82.set_1 | refine IsS82.far ?_ NB0_187.out _ | refine IsS82.far ?_ NB0_208.out _) | exact HI0.out)) (Kd.ur_ HO192.out) (by decide)) hk (fun _ h => h.2)) (fun _ h => h.1))
   have n2_ := mk_ (Kd.R_mono (Kd.R_keep (IsS82.apart (show IsS82 w0 _ g s0_0 t205 from by repeat (first | (with_reducible first | exact HI0.out | apply IsS82.alloc | apply IsS82.drewN | apply IsS82.drew | apply IsS82.set_1 | refine IsS82.far ?_ NB0_187.out _ | refine IsS82.far ?_ NB0_208.out _) | exact HI0.out)) (Kd.ur_ HO200.out) (by decide)) hk (fun _ h => h.2)) (fun _ h => h.1))
   have n3_ := mk_ (KeepBut.blk hk (g' := gb208) (o := .cells #[.int .i64 0, .int .i64 0, .int .i64 0, .int .i64 0] 88 (0, 0)) (u_ BK208.out) NB208_0.out (by simp))
   have n4_ := mk_ (KeepBut.trans (by repeat (first | (with_reducible first | exact HK.out | apply KeepBut.set_ | apply keep_drewN | apply keep_drew | apply keep_alloc | refine keep_far ?_ GW187.out _ | refine keep_far ?_ GW208.out _) | exact HK.out)) hk (.inl rfl))
   have n5_ := mk_ (hb)
   have n6_ := mk_ (hi)
   clear BK187
   clear HO192
   clear HO200
   clear BK208
   clear HK
   clear HB
   clear HI0
   have BK187 := n0_
   have HO192 := n1_
   have HO200 := n2_
   have BK208 := n3_
   have HK := n4_
   have HB := n5_
   have HI0 := n6_
   clear n0_ n1_ n2_ n3_ n4_ n5_ n6_
   (try clear hb)
   (try clear hb2)
   (try clear hk)
   (try clear hi)
   refine hK.out _ _ trivial (fun hHeld => ?_)
   clear hK K
   refine norm_ (a' := ?_) ?_ ?_
   rotate_left
   ·show Act.put _ (some 34) _ = _
    simp only [Act.put, la_, lz_, ls_, i64_w, i32_w]
    rfl
   refine pure_ (i := 12) (N := some 35) (v := ?_) (a' := ?_) #[T_, T_, T_, T_, T_, T_, T_, T_, T_, T_, T_, T_, T_, F_, F_, T_, F_] rfl rfl (any_of HT_.out (by kernel_rfl)) (fun _ _ _ h => h) (Or.inl ⟨by rfl, ?_⟩) ?_ ?_
   rotate_left
   ·intro w'
    go_simp
    with_reducible rfl
   rotate_left
   ·simp only [Act.put, la_, lz_, ls_, i64_w, i32_w]
    rfl
   refine pure_ (i := 13) (N := some 36) (v := ?_) (a' := ?_) #[T_, T_, T_, T_, T_, T_, T_, T_, T_, T_, T_, T_, T_, T_, F_, T_, F_] rfl rfl (any_of HT_.out (by kernel_rfl)) (fun _ _ _ h => h) (Or.inl ⟨by rfl, ?_⟩) ?_ ?_
   rotate_left
   ·intro w'
    go_simp
    with_reducible rfl
   rotate_left
   ·simp only [Act.put, la_, lz_, ls_, i64_w, i32_w]
    rfl
   refine pure_ (i := 14) (N := some 37) (v := ?_) (a' := ?_) #[T_, T_, T_, T_, T_, T_, T_, T_, T_, T_, T_, T_, T_, T_, T_, T_, F_] rfl rfl (any_of HT_.out (by kernel_rfl)) (fun _ _ _ h => h) (Or.inl ⟨by rfl, ?_⟩) ?_ ?_
   rotate_left
   ·intro w'
    go_simp
    with_reducible rfl
   rotate_left
   ·simp only [Act.put, la_, lz_, ls_, i64_w, i32_w]
    rfl
   exact norm_ (by simp only [putAll, Act.put, la_, lz_, ls_]) (hCont (gb208) _ ⟨(by (with_reducible repeat (first | apply Kd.R_alloc | apply Kd.R_drewN | apply Kd.R_drew)); exact Kd.R_mono HO192.out (fun _ hk => hk.2)), (by (with_reducible repeat (first | apply Kd.R_alloc | apply Kd.R_drewN | apply Kd.R_drew)); exact Kd.R_mono HO200.out (fun _ hk => hk.2)), (u_ BK187.out), (u_ BK208.out), GW208.out, GE208.out, NB0_208.out, NB208_0.out, NB187_208.out, NB208_187.out, (by repeat (first | (with_reducible first | exact HI0.out | apply IsS82.alloc | apply IsS82.drewN | apply IsS82.drew | apply IsS82.set_1 | refine IsS82.far ?_ NB0_187.out _ | refine IsS82.far ?_ NB0_208.out _) | exact HI0.out)), (by repeat (first | (with_reducible first | exact HK.out | apply KeepBut.set_ | apply keep_drewN | apply keep_drew | apply keep_alloc | refine keep_far ?_ GW187.out _ | refine keep_far ?_ GW208.out _) | exact HK.out)), (by repeat (first | (with_reducible first | exact HB.out | apply na_ | apply nn_ | apply nw_ | refine bs_ ?_ (IsS82.ge HI0.out) | refine bs_ ?_ GE187.out | refine bs_ ?_ GE208.out) | exact HB.out))⟩)
  rintro gb208 w37 ⟨h0_, h1_, h2_, h3_, h4_, h5_, h6_, h7_, h8_, h9_, h10_, h11_, h12_⟩
  have n0_ : Aside0 (Kd.R (Kd.int .i64) 3 w37 w.heap.size (fun k_ => some k_ ≠ (.slice (some ad203) y198.length co32 : Value).ownBlock) (.slice (some ad195) y190.length co27) y190) := ⟨h0_⟩
  have n1_ : Aside0 (Kd.R (Kd.int .i64) 3 w37 w.heap.size (fun k_ => some k_ ≠ (.slice (some ad195) y190.length co27 : Value).ownBlock) (.slice (some ad203) y198.length co32) y198) := ⟨h1_⟩
  have n2_ : Aside0 (w37.heap[gb187]? = some (.cells #[.int .i64 0, .int .i64 0, .int .i64 0, .int .i64 0] 88 (0, 0))) := ⟨h2_⟩
  have n3_ : Aside0 (w37.heap[gb208]? = some (.cells #[.int .i64 0, .int .i64 0, .int .i64 0, .int .i64 0] 88 (0, 0))) := ⟨h3_⟩
  have n4_ : Aside0 (w.heap.size ≤ gb208) := ⟨h4_⟩
  have n5_ : Aside0 (w0.heap.size ≤ gb208) := ⟨h5_⟩
  have n6_ : Aside0 (g ≠ gb208) := ⟨h6_⟩
  have n7_ : Aside0 (gb208 ≠ g) := ⟨h7_⟩
  have n8_ : Aside0 (gb187 ≠ gb208) := ⟨h8_⟩
  have n9_ : Aside0 (gb208 ≠ gb187) := ⟨h9_⟩
  have n10_ : Aside0 (IsS82 w0 w37 g s0_0 t207) := ⟨h10_⟩
  have n11_ : Aside0 (KeepBut w w37 g none) := ⟨h11_⟩
  have n12_ : Aside0 (Below w0.heap.size w0 w37) := ⟨h12_⟩
  clear HO192
  clear HO200
  clear BK187
  clear HI0
  clear HK
  clear HB
  clear h0_ h1_ h2_ h3_ h4_ h5_ h6_ h7_ h8_ h9_ h10_ h11_ h12_
  have HO192 := n0_
  have HO200 := n1_
  have BK187 := n2_
  have BK208 := n3_
  have GW208 := n4_
  have GE208 := ge_ n5_.out
  have NB0_208 := nq_ n6_.out
  have NB208_0 := nq_ n7_.out
  have NB187_208 := nq_ n8_.out
  have NB208_187 := nq_ n9_.out
  have HI0 := n10_
  have HK := n11_
  have HB := n12_
  clear n0_ n1_ n2_ n3_ n4_ n5_ n6_ n7_ n8_ n9_ n10_ n11_ n12_
  have hHeld := trivial
  refine norm_ (a' := ?_) ?_ ?_
  rotate_left
  ·simp only [putAll, Act.put, la_, lz_, ls_]
   rfl
  refine one_ (i := 16) (N := none) #[T_, T_, T_, T_, T_, T_, T_, T_, T_, T_, T_, T_, T_, T_, T_, T_, T_] rfl rfl (one_of HT_.out (by kernel_rfl)) (by decide) (fun K hK => ?_)
  have hs38 : w37.cell? ⟨gb208, 0, none⟩ = some (.int .i64 0) := (blk_cell BK208.out 0).trans rfl
  have hfs38 := blk_frozen BK208.out 0
  have hns38_0 := NB187_208.out
  have hms38_0 := NB208_187.out
  have hs39 : w37.cell? ⟨gb208, 1, none⟩ = some (.int .i64 0) := (blk_cell BK208.out 1).trans rfl
  have hfs39 := blk_frozen BK208.out 1
  have hns39_0 := NB187_208.out
  have hms39_0 := NB208_187.out
  have hs40 : w37.cell? ⟨gb208, 2, none⟩ = some (.int .i64 0) := (blk_cell BK208.out 2).trans rfl
  have hfs40 := blk_frozen BK208.out 2
  have hns40_0 := NB187_208.out
  have hms40_0 := NB208_187.out
  have hs41 : w37.cell? ⟨gb208, 3, none⟩ = some (.int .i64 0) := (blk_cell BK208.out 3).trans rfl
  have hfs41 := blk_frozen BK208.out 3
  have hns41_0 := NB187_208.out
  have hms41_0 := NB208_187.out
  refine skip_ (w1 := ?_) (by rfl) rfl ?_ ?_
  rotate_left
  ·go_simp
   rfl
  refine hK.out _ _ trivial (fun hHeld => ?_)
  clear hK K
  refine done_ (done_of HT_.out (by kernel_rfl)) ?_
  try go_wp2_with (first | ((with_reducible refine gate_callee (f := 65) rfl ?_); refine goesL_ (some 40) rfl rfl Try.func65 (by kernel_rfl) rfl #[.pointer (some ⟨g, 0, none⟩), .int .i64 a1] rfl (by (try simp only [lm_, lo_, ln_]); first | done | rfl | (simp only [List.length_drop, List.length_take]; rfl)) ?_; (with_reducible refine (spec_l20Rd_odd.calls k g s0_0 t207 a1 true t210 w0 _ ?side1 ?side2 A17.out).mono ?_); (case side1 => repeat (first | (with_reducible first | exact HI0.out | apply IsS82.alloc | apply IsS82.drewN | apply IsS82.drew | apply IsS82.set_1 | refine IsS82.far ?_ NB0_187.out _ | refine IsS82.far ?_ NB0_208.out _) | exact HI0.out)); (case side2 => repeat (first | (with_reducible first | exact HB.out | apply na_ | apply nn_ | apply nw_ | refine bs_ ?_ (IsS82.ge HI0.out) | refine bs_ ?_ GE187.out | refine bs_ ?_ GE208.out) | exact HB.out)); rintro e w42 ⟨rfl, hi, hb, hk⟩; refine ⟨_, rfl, ?_⟩; have n0_ := mk_ (KeepBut.blk hk (g' := gb187) (o := .cells #[.int .i64 0, .int .i64 0, .int .i64 0, .int .i64 0] 88 (0, 0)) (uf_ BK187.out) NB187_0.out (by simp)); have n1_ := mk_ (Kd.R_mono (Kd.R_keep (IsS82.apart (show IsS82 w0 _ g s0_0 t207 from by repeat (first | (with_reducible first | exact HI0.out | apply IsS82.alloc | apply IsS82.drewN | apply IsS82.drew | apply IsS82.set_1 | refine IsS82.far ?_ NB0_187.out _ | refine IsS82.far ?_ NB0_208.out _) | exact HI0.out)) (by (with_reducible repeat (first | apply Kd.R_alloc | apply Kd.R_drewN | apply Kd.R_drew)); exact (Kd.R_mono (Kd.R_far (p := ⟨gb208, 3, none⟩) (Kd.R_far (p := ⟨gb208, 2, none⟩) (Kd.R_far (p := ⟨gb208, 1, none⟩) (Kd.R_far (p := ⟨gb208, 0, none⟩) (Kd.R_types HO192.out BK208.out (by decide)) (fun _ hk => hk.2) (.int .i64 (wrap64 ((rd y198 t201) - (Int.tmod (rd y198 t201) (ji13)))))) (fun _ hk => hk.2) (.int .i64 (rd y190 t193))) (fun _ hk => hk.2) (.int .i64 t204)) (fun _ hk => hk.2) (.int .i64 (wrap64 (4 + (wrap64 (t206 * 6)))))) (fun _ h_ => by first | exact h_.1 | simp only [h_, ne_eq, not_false_eq_true, and_self]))) (by decide)) hk (fun _ h => h.2)) (fun _ h => h.1)); have n2_ := mk_ (Kd.R_mono (Kd.R_keep (IsS82.apart (show IsS82 w0 _ g s0_0 t207 from by repeat (first | (with_reducible first | exact HI0.out | apply IsS82.alloc | apply IsS82.drewN | apply IsS82.drew | apply IsS82.set_1 | refine IsS82.far ?_ NB0_187.out _ | refine IsS82.far ?_ NB0_208.out _) | exact HI0.out)) (by (with_reducible repeat (first | apply Kd.R_alloc | apply Kd.R_drewN | apply Kd.R_drew)); exact (Kd.R_mono (Kd.R_far (p := ⟨gb208, 3, none⟩) (Kd.R_far (p := ⟨gb208, 2, none⟩) (Kd.R_far (p := ⟨gb208, 1, none⟩) (Kd.R_far (p := ⟨gb208, 0, none⟩) (Kd.R_types HO200.out BK208.out (by decide)) (fun _ hk => hk.2) (.int .i64 (wrap64 ((rd y198 t201) - (Int.tmod (rd y198 t201) (ji13)))))) (fun _ hk => hk.2) (.int .i64 (rd y190 t193))) (fun _ hk => hk.2) (.int .i64 t204)) (fun _ hk => hk.2) (.int .i64 (wrap64 (4 + (wrap64 (t206 * 6)))))) (fun _ h_ => by first | exact h_.1 | simp only [h_, ne_eq, not_false_eq_true, and_self]))) (by decide)) hk (fun _ h => h.2)) (fun _ h => h.1)); have n3_ := mk_ (KeepBut.blk hk (g' := gb208) (o := .cells #[.int .i64 (wrap64 ((rd y198 t201) - (Int.tmod (rd y198 t201) (ji13)))), .int .i64 (rd y190 t193), .int .i64 t204, .int .i64 (wrap64 (4 + (wrap64 (t206 * 6))))] 88 (0, 0)) (by (with_reducible repeat (first | refine bn_ ?_ _ | refine bw_ ?_ | refine ba_ ?_ _)); refine blk_put (cs := #[.int .i64 (wrap64 ((rd y198 t201) - (Int.tmod (rd y198 t201) (ji13)))), .int .i64 (rd y190 t193), .int .i64 t204, .int .i64 0]) ?_ 3 _ rfl; (with_reducible repeat (first | refine bn_ ?_ _ | refine bw_ ?_ | refine ba_ ?_ _)); refine blk_put (cs := #[.int .i64 (wrap64 ((rd y198 t201) - (Int.tmod (rd y198 t201) (ji13)))), .int .i64 (rd y190 t193), .int .i64 0, .int .i64 0]) ?_ 2 _ rfl; (with_reducible repeat (first | refine bn_ ?_ _ | refine bw_ ?_ | refine ba_ ?_ _)); refine blk_put (cs := #[.int .i64 (wrap64 ((rd y198 t201) - (Int.tmod (rd y198 t201) (ji13)))), .int .i64 0, .int .i64 0, .int .i64 0]) ?_ 1 _ rfl; (with_reducible repeat (first | refine bn_ ?_ _ | refine bw_ ?_ | refine ba_ ?_ _)); refine blk_put (cs := #[.int .i64 0, .int .i64 0, .int .i64 0, .int .i64 0]) ?_ 0 _ rfl; (with_reducible repeat (first | refine bn_ ?_ _ | refine bw_ ?_ | refine ba_ ?_ _)); exact BK208.out) NB208_0.out (by simp)); have n4_ := mk_ (KeepBut.trans (by repeat (first | (with_reducible first | exact HK.out | apply KeepBut.set_ | apply keep_drewN | apply keep_drew | apply keep_alloc | refine keep_far ?_ GW187.out _ | refine keep_far ?_ GW208.out _) | exact HK.out)) hk (.inl rfl)); have n5_ := mk_ (hb); have n6_ := mk_ (hi); clear BK187; clear HO192; clear HO200; clear BK208; clear HK; clear HB; clear HI0; have BK187 := n0_; have HO192 := n1_; have HO200 := n2_; have BK208 := n3_; have HK := n4_; have HB := n5_; have HI0 := n6_; clear n0_ n1_ n2_ n3_ n4_ n5_ n6_; (try clear hb); (try clear hb2); (try clear hk); (try clear hi)) | ((with_reducible refine gate_callee (f := 46) rfl ?_); have hA_ := A19.out; refine goesL_ (some 42) rfl rfl Try.func46 (by kernel_rfl) rfl #[.pointer (some ⟨g, 0, none⟩), .int .i64 3] rfl (by (try simp only [lm_, lo_, ln_]); first | done | rfl | (simp only [List.length_drop, List.length_take]; rfl)) ?_; (with_reducible refine (spec_l20Rd_pick.calls k g s0_0 t210 3 t211 t212 w0 _ ?side1 ?side2 A19.out).mono ?_); (case side1 => repeat (first | (with_reducible first | exact HI0.out | apply IsS82.alloc | apply IsS82.drewN | apply IsS82.drew | apply IsS82.set_1 | refine IsS82.far ?_ NB0_187.out _ | refine IsS82.far ?_ NB0_208.out _) | exact HI0.out)); (case side2 => repeat (first | (with_reducible first | exact HB.out | apply na_ | apply nn_ | apply nw_ | refine bs_ ?_ (IsS82.ge HI0.out) | refine bs_ ?_ GE187.out | refine bs_ ?_ GE208.out) | exact HB.out)); rintro e w43 ⟨rfl, hi, hb, hk⟩; refine ⟨_, rfl, ?_⟩; have n0_ := mk_ (KeepBut.blk hk (g' := gb187) (o := .cells #[.int .i64 0, .int .i64 0, .int .i64 0, .int .i64 0] 88 (0, 0)) (u_ BK187.out) NB187_0.out (by simp)); have n1_ := mk_ (Kd.R_mono (Kd.R_keep (IsS82.apart (show IsS82 w0 _ g s0_0 t210 from by repeat (first | (with_reducible first | exact HI0.out | apply IsS82.alloc | apply IsS82.drewN | apply IsS82.drew | apply IsS82.set_1 | refine IsS82.far ?_ NB0_187.out _ | refine IsS82.far ?_ NB0_208.out _) | exact HI0.out)) (Kd.ur_ HO192.out) (by decide)) hk (fun _ h => h.2)) (fun _ h => h.1)); have n2_ := mk_ (Kd.R_mono (Kd.R_keep (IsS82.apart (show IsS82 w0 _ g s0_0 t210 from by repeat (first | (with_reducible first | exact HI0.out | apply IsS82.alloc | apply IsS82.drewN | apply IsS82.drew | apply IsS82.set_1 | refine IsS82.far ?_ NB0_187.out _ | refine IsS82.far ?_ NB0_208.out _) | exact HI0.out)) (Kd.ur_ HO200.out) (by decide)) hk (fun _ h => h.2)) (fun _ h => h.1)); have n3_ := mk_ (KeepBut.blk hk (g' := gb208) (o := .cells #[.int .i64 (wrap64 ((rd y198 t201) - (Int.tmod (rd y198 t201) (ji13)))), .int .i64 (rd y190 t193), .int .i64 t204, .int .i64 (wrap64 (4 + (wrap64 (t206 * 6))))] 88 (0, 0)) (u_ BK208.out) NB208_0.out (by simp)); have n4_ := mk_ (KeepBut.trans (by repeat (first | (with_reducible first | exact HK.out | apply KeepBut.set_ | apply keep_drewN | apply keep_drew | apply keep_alloc | refine keep_far ?_ GW187.out _ | refine keep_far ?_ GW208.out _) | exact HK.out)) hk (.inl rfl)); have n5_ := mk_ (hb); have n6_ := mk_ (hi); clear BK187; clear HO192; clear HO200; clear BK208; clear HK; clear HB; clear HI0; have BK187 := n0_; have HO192 := n1_; have HO200 := n2_; have BK208 := n3_; have HK := n4_; have HB := n5_; have HI0 := n6_; clear n0_ n1_ n2_ n3_ n4_ n5_ n6_; (try clear hb); (try clear hb2); (try clear hk); (try clear hi); clear hA_ A19) | ((with_reducible refine gate_callee (f := 46) rfl ?_); have hA_ := A21.out; refine goesL_ (some 50) rfl rfl Try.func46 (by kernel_rfl) rfl #[.pointer (some ⟨g, 0, none⟩), .int .i64 2] rfl (by (try simp only [lm_, lo_, ln_]); first | done | rfl | (simp only [List.length_drop, List.length_take]; rfl)) ?_; (with_reducible refine (spec_l20Rd_pick.calls k g s0_0 t212 2 t213 t214 w0 _ ?side1 ?side2 A21.out).mono ?_); (case side1 => repeat (first | (with_reducible first | exact HI0.out | apply IsS82.alloc | apply IsS82.drewN | apply IsS82.drew | apply IsS82.set_1 | refine IsS82.far ?_ NB0_187.out _ | refine IsS82.far ?_ NB0_208.out _) | exact HI0.out)); (case side2 => repeat (first | (with_reducible first | exact HB.out | apply na_ | apply nn_ | apply nw_ | refine bs_ ?_ (IsS82.ge HI0.out) | refine bs_ ?_ GE187.out | refine bs_ ?_ GE208.out) | exact HB.out)); rintro e w44 ⟨rfl, hi, hb, hk⟩; refine ⟨_, rfl, ?_⟩; have n0_ := mk_ (KeepBut.blk hk (g' := gb187) (o := .cells #[.int .i64 0, .int .i64 0, .int .i64 0, .int .i64 0] 88 (0, 0)) (u_ BK187.out) NB187_0.out (by simp)); have n1_ := mk_ (Kd.R_mono (Kd.R_keep (IsS82.apart (show IsS82 w0 _ g s0_0 t212 from by repeat (first | (with_reducible first | exact HI0.out | apply IsS82.alloc | apply IsS82.drewN | apply IsS82.drew | apply IsS82.set_1 | refine IsS82.far ?_ NB0_187.out _ | refine IsS82.far ?_ NB0_208.out _) | exact HI0.out)) (Kd.ur_ HO192.out) (by decide)) hk (fun _ h => h.2)) (fun _ h => h.1)); have n2_ := mk_ (Kd.R_mono (Kd.R_keep (IsS82.apart (show IsS82 w0 _ g s0_0 t212 from by repeat (first | (with_reducible first | exact HI0.out | apply IsS82.alloc | apply IsS82.drewN | apply IsS82.drew | apply IsS82.set_1 | refine IsS82.far ?_ NB0_187.out _ | refine IsS82.far ?_ NB0_208.out _) | exact HI0.out)) (Kd.ur_ HO200.out) (by decide)) hk (fun _ h => h.2)) (fun _ h => h.1)); have n3_ := mk_ (KeepBut.blk hk (g' := gb208) (o := .cells #[.int .i64 (wrap64 ((rd y198 t201) - (Int.tmod (rd y198 t201) (ji13)))), .int .i64 (rd y190 t193), .int .i64 t204, .int .i64 (wrap64 (4 + (wrap64 (t206 * 6))))] 88 (0, 0)) (u_ BK208.out) NB208_0.out (by simp)); have n4_ := mk_ (KeepBut.trans (by repeat (first | (with_reducible first | exact HK.out | apply KeepBut.set_ | apply keep_drewN | apply keep_drew | apply keep_alloc | refine keep_far ?_ GW187.out _ | refine keep_far ?_ GW208.out _) | exact HK.out)) hk (.inl rfl)); have n5_ := mk_ (hb); have n6_ := mk_ (hi); clear BK187; clear HO192; clear HO200; clear BK208; clear HK; clear HB; clear HI0; have BK187 := n0_; have HO192 := n1_; have HO200 := n2_; have BK208 := n3_; have HK := n4_; have HB := n5_; have HI0 := n6_; clear n0_ n1_ n2_ n3_ n4_ n5_ n6_; (try clear hb); (try clear hb2); (try clear hk); (try clear hi); have hnb45 := NB208_187.out; have hnc45 := NB187_208.out; have hnb46 := NB208_0.out; have hnc46 := NB0_208.out; obtain ⟨hcz47_0, hcz47_1, hcz47_2, hcz47_3, hfz47_0, hfz47_1, hfz47_2, hfz47_3⟩ := cells4_ BK208.out; have hnb48 := NB187_0.out; have hnc48 := NB0_187.out; obtain ⟨hcz49_0, hcz49_1, hcz49_2, hcz49_3, hfz49_0, hfz49_1, hfz49_2, hfz49_3⟩ := cells4_ BK187.out; clear hA_ A21))
  refine bodyPost_ret (results_cell_row rfl _ _ gb187 88 #[.int .i64 (wrap64 ((rd y198 t201) - (Int.tmod (rd y198 t201) (ji13)))), .int .i64 (wrap64 (17 - (wrap64 (t213 * 18)))), .int .i64 t204, .int .i64 (wrap64 (4 + (wrap64 (t206 * 6))))] (0, 0) _ rfl (by (with_reducible repeat (first | refine bn_ ?_ _ | refine bw_ ?_ | refine ba_ ?_ _)); refine blk_put (cs := #[.int .i64 (wrap64 ((rd y198 t201) - (Int.tmod (rd y198 t201) (ji13)))), .int .i64 (wrap64 (17 - (wrap64 (t213 * 18)))), .int .i64 t204, .int .i64 0]) ?_ 3 _ rfl; (with_reducible repeat (first | refine bn_ ?_ _ | refine bw_ ?_ | refine ba_ ?_ _)); refine blk_put (cs := #[.int .i64 (wrap64 ((rd y198 t201) - (Int.tmod (rd y198 t201) (ji13)))), .int .i64 (wrap64 (17 - (wrap64 (t213 * 18)))), .int .i64 0, .int .i64 0]) ?_ 2 _ rfl; (with_reducible repeat (first | refine bn_ ?_ _ | refine bw_ ?_ | refine ba_ ?_ _)); refine blk_put (cs := #[.int .i64 (wrap64 ((rd y198 t201) - (Int.tmod (rd y198 t201) (ji13)))), .int .i64 0, .int .i64 0, .int .i64 0]) ?_ 1 _ rfl; (with_reducible repeat (first | refine bn_ ?_ _ | refine bw_ ?_ | refine ba_ ?_ _)); refine blk_put (cs := #[.int .i64 0, .int .i64 0, .int .i64 0, .int .i64 0]) ?_ 0 _ rfl; (with_reducible repeat (first | refine bn_ ?_ _ | refine bw_ ?_ | refine ba_ ?_ _)); refine blk_far ?_ NB187_208.out _; (with_reducible repeat (first | refine bn_ ?_ _ | refine bw_ ?_ | refine ba_ ?_ _)); exact BK187.out) Try.underlying88 rfl (by kernel_rfl)) rfl ?_
  exact ⟨by first | rfl | (simp [errW_none, errW_some] <;> rfl) | (simp only [← hji11, ← hji13]; first | rfl | (simp [errW_none, errW_some] <;> rfl)) | (simp [*, errW_none, errW_some] <;> rfl), by repeat (first | (with_reducible first | exact HI0.out | apply IsS82.alloc | apply IsS82.drewN | apply IsS82.drew | apply IsS82.set_1 | refine IsS82.far ?_ NB0_187.out _ | refine IsS82.far ?_ NB0_208.out _) | exact HI0.out), by repeat (first | (with_reducible first | exact HB.out | apply na_ | apply nn_ | apply nw_ | refine bs_ ?_ (IsS82.ge HI0.out) | refine bs_ ?_ GE187.out | refine bs_ ?_ GE208.out) | exact HB.out), by repeat (first | (with_reducible first | exact HK.out | apply KeepBut.set_ | apply keep_drewN | apply keep_drew | apply keep_alloc | refine keep_far ?_ GW187.out _ | refine keep_far ?_ GW208.out _) | exact HK.out)⟩
 rw [if_neg c20] at H
 have c20b0 : (t211 == 0) = false := beq_eq_false_iff_ne.mpr c20
 have c20b1 : (t211 != 0) = true := bne_iff_ne.mpr c20
 by_cases c50 : t211 = 1
 rotate_left
 ·rw [if_neg c50] at H
  have c50b0 : (t211 == 1) = false := beq_eq_false_iff_ne.mpr c50
  have c50b1 : (t211 != 1) = true := bne_iff_ne.mpr c50
  simp only [Option.some.injEq, Prod.mk.injEq] at H
  obtain ⟨rfl, rfl, rfl, rfl, rfl⟩ := H
  go_enter Try.func68, Try.ntmps68
  try go_wp2_with (first | ((with_reducible refine gate_dst (N := 4) rfl ?_); refine box_event ?hg (N := 4) ?hd (cs := #[.int .i64 0, .int .i64 0, .int .i64 0, .int .i64 0]) (t := 88) ?hr ?_; (case hd => rfl); (case hg => rfl); (case hr => first | (go_simp; done) | (go_simp; rfl)); intro gb187 hg w80 hbox hb; have n0_ := mk_ (IsS82.below (by repeat (first | (with_reducible first | exact HI0.out | apply IsS82.alloc | apply IsS82.drewN | apply IsS82.drew | apply IsS82.set_1) | exact HI0.out)) hb); have n1_ := mk_ (KeepBut.trans (by repeat (first | (with_reducible first | exact HK.out | apply KeepBut.set_ | apply keep_drewN | apply keep_drew | apply keep_alloc) | exact HK.out)) (KeepBut.of_below hb g none) (.inl rfl)); have n2_ := mk_ (below_step (by repeat (first | (with_reducible first | exact HB.out | apply na_ | apply nn_ | apply nw_ | refine bs_ ?_ (IsS82.ge HI0.out)) | exact HB.out)) hb); have n3_ := mk_ (hbox); have n4_ := mk_ ((by rw [hg]; exact (keep_size (w := w) (g := g) (row := none) (by repeat (first | (with_reducible first | exact HK.out | apply KeepBut.set_ | apply keep_drewN | apply keep_drew | apply keep_alloc) | exact HK.out))) : w.heap.size ≤ gb187)); have n5_ := mk_ ((Nat.le_trans HW0.out (by rw [hg]; exact (keep_size (w := w) (g := g) (row := none) (by repeat (first | (with_reducible first | exact HK.out | apply KeepBut.set_ | apply keep_drewN | apply keep_drew | apply keep_alloc) | exact HK.out))) : w.heap.size ≤ gb187) : w0.heap.size ≤ gb187)); have n6_ := mk_ ((by rw [hg]; exact Nat.ne_of_lt (IsS82.lt (show IsS82 w0 _ g s0_0 s0_1 from by repeat (first | (with_reducible first | exact HI0.out | apply IsS82.alloc | apply IsS82.drewN | apply IsS82.drew | apply IsS82.set_1) | exact HI0.out))) : g ≠ gb187)); have n7_ := mk_ ((by rw [hg]; exact Nat.ne_of_gt (IsS82.lt (show IsS82 w0 _ g s0_0 s0_1 from by repeat (first | (with_reducible first | exact HI0.out | apply IsS82.alloc | apply IsS82.drewN | apply IsS82.drew | apply IsS82.set_1) | exact HI0.out))) : gb187 ≠ g)); clear HI0; clear HK; clear HB; have HI0 := n0_; have HK := n1_; have HB := n2_; have BK187 := n3_; have GW187 := n4_; have GE187 := ge_ n5_.out; have NB0_187 := nq_ n6_.out; have NB187_0 := nq_ n7_.out; clear n0_ n1_ n2_ n3_ n4_ n5_ n6_ n7_; clear hb hbox hg) | ((with_reducible refine gate_callee (f := 46) rfl ?_); have hA_ := A3.out; refine goesL_ (some 9) rfl rfl Try.func46 (by kernel_rfl) rfl #[.pointer (some ⟨g, 0, none⟩), .int .i64 17] rfl (by (try simp only [lm_, lo_, ln_]); first | done | rfl | (simp only [List.length_drop, List.length_take]; rfl)) ?_; (with_reducible refine (spec_l20Rd_pick.calls k g s0_0 s0_1 17 t188 t189 w0 _ ?side1 ?side2 A3.out).mono ?_); (case side1 => repeat (first | (with_reducible first | exact HI0.out | apply IsS82.alloc | apply IsS82.drewN | apply IsS82.drew | apply IsS82.set_1 | refine IsS82.far ?_ NB0_187.out _) | exact HI0.out)); (case side2 => repeat (first | (with_reducible first | exact HB.out | apply na_ | apply nn_ | apply nw_ | refine bs_ ?_ (IsS82.ge HI0.out) | refine bs_ ?_ GE187.out) | exact HB.out)); rintro e w81 ⟨rfl, hi, hb, hk⟩; refine ⟨_, rfl, ?_⟩; have n0_ := mk_ (KeepBut.blk hk (g' := gb187) (o := .cells #[.int .i64 0, .int .i64 0, .int .i64 0, .int .i64 0] 88 (0, 0)) (u_ BK187.out) NB187_0.out (by simp)); have n1_ := mk_ (KeepBut.trans (by repeat (first | (with_reducible first | exact HK.out | apply KeepBut.set_ | apply keep_drewN | apply keep_drew | apply keep_alloc | refine keep_far ?_ GW187.out _) | exact HK.out)) hk (.inl rfl)); have n2_ := mk_ (hb); have n3_ := mk_ (hi); clear BK187; clear HK; clear HB; clear HI0; have BK187 := n0_; have HK := n1_; have HB := n2_; have HI0 := n3_; clear n0_ n1_ n2_ n3_; (try clear hb); (try clear hb2); (try clear hk); (try clear hi); clear hA_ A3) | ((with_reducible refine gate_dst (N := 10) rfl ?_); refine Kd.R_lit (Kd.int .i64) _ 3 ?hg (N := 10) ?hd (xs := ([0, 4, 8, 8, 12, 16, t188] : List Int)) (inner := [.int .i64 0, .int .i64 4, .int .i64 8, .int .i64 8, .int .i64 12, .int .i64 16, .int .i64 t188]) (ok := fun _ => True) (okp := fun _ => True) ?hr ?hp (fun _ hk => hk) trivial (Below.refl _ _) (Nat.le_refl _) (by simp) ?_; (case hd => rfl); (case hg => rfl); (case hr => first | (go_simp; done) | (go_simp; rfl)); (case hp => exact (Reps.one (show Kd.M (Kd.int .i64) _ _ _ 0 [.int .i64 0] from rfl) (Reps.one (show Kd.M (Kd.int .i64) _ _ _ 4 [.int .i64 4] from rfl) (Reps.one (show Kd.M (Kd.int .i64) _ _ _ 8 [.int .i64 8] from rfl) (Reps.one (show Kd.M (Kd.int .i64) _ _ _ 8 [.int .i64 8] from rfl) (Reps.one (show Kd.M (Kd.int .i64) _ _ _ 12 [.int .i64 12] from rfl) (Reps.one (show Kd.M (Kd.int .i64) _ _ _ 16 [.int .i64 16] from rfl) (Reps.one (show Kd.M (Kd.int .i64) _ _ _ t188 [.int .i64 t188] from rfl) (Reps.none _ _))))))))); intro v191 w82 ho83 hb hg_ hnew_; clear hg_ hnew_; (first | rw [← Ny190.out] at ho83 | (simp only [Int.reduceToNat] at ho83; rw [← Ny190.out] at ho83)); have n0_ := mk_ (Kd.R_lower ho83 (keep_size (w := w) (g := g) (row := none) (by repeat (first | (with_reducible first | exact HK.out | apply KeepBut.set_ | apply keep_drewN | apply keep_drew | apply keep_alloc | refine keep_far ?_ GW187.out _) | exact HK.out)))); have n1_ := mk_ (IsS82.below (by repeat (first | (with_reducible first | exact HI0.out | apply IsS82.alloc | apply IsS82.drewN | apply IsS82.drew | apply IsS82.set_1 | refine IsS82.far ?_ NB0_187.out _) | exact HI0.out)) hb); have n2_ := mk_ (blk_below (u_ BK187.out) hb); have n3_ := mk_ (KeepBut.trans (by repeat (first | (with_reducible first | exact HK.out | apply KeepBut.set_ | apply keep_drewN | apply keep_drew | apply keep_alloc | refine keep_far ?_ GW187.out _) | exact HK.out)) (KeepBut.of_below hb g none) (.inl rfl)); have n4_ := mk_ (below_step (by repeat (first | (with_reducible first | exact HB.out | apply na_ | apply nn_ | apply nw_ | refine bs_ ?_ (IsS82.ge HI0.out) | refine bs_ ?_ GE187.out) | exact HB.out)) hb); clear HI0; clear BK187; clear HK; clear HB; have HO192 := n0_; have HI0 := n1_; have BK187 := n2_; have HK := n3_; have HB := n4_; clear n0_ n1_ n2_ n3_ n4_; clear hb ho83) | ((with_reducible refine gate_callee (f := 46) rfl ?_); have hA_ := A4.out; refine goesL_ (some 12) rfl rfl Try.func46 (by kernel_rfl) rfl #[.pointer (some ⟨g, 0, none⟩), .int .i64 7] rfl (by (try simp only [lm_, lo_, ln_]); first | done | rfl | (simp only [List.length_drop, List.length_take]; rfl)) ?_; (with_reducible refine (spec_l20Rd_pick.calls k g s0_0 t189 7 t193 t194 w0 _ ?side1 ?side2 A4.out).mono ?_); (case side1 => repeat (first | (with_reducible first | exact HI0.out | apply IsS82.alloc | apply IsS82.drewN | apply IsS82.drew | apply IsS82.set_1 | refine IsS82.far ?_ NB0_187.out _) | exact HI0.out)); (case side2 => repeat (first | (with_reducible first | exact HB.out | apply na_ | apply nn_ | apply nw_ | refine bs_ ?_ (IsS82.ge HI0.out) | refine bs_ ?_ GE187.out) | exact HB.out)); rintro e w84 ⟨rfl, hi, hb, hk⟩; refine ⟨_, rfl, ?_⟩; have n0_ := mk_ (KeepBut.blk hk (g' := gb187) (o := .cells #[.int .i64 0, .int .i64 0, .int .i64 0, .int .i64 0] 88 (0, 0)) (u_ BK187.out) NB187_0.out (by simp)); have n1_ := mk_ (Kd.R_mono (Kd.R_keep (IsS82.apart (show IsS82 w0 _ g s0_0 t189 from by repeat (first | (with_reducible first | exact HI0.out | apply IsS82.alloc | apply IsS82.drewN | apply IsS82.drew | apply IsS82.set_1 | refine IsS82.far ?_ NB0_187.out _) | exact HI0.out)) (Kd.ur_ HO192.out) (by decide)) hk (fun _ h => h.2)) (fun _ h => h.1)); have n2_ := mk_ (KeepBut.trans (by repeat (first | (with_reducible first | exact HK.out | apply KeepBut.set_ | apply keep_drewN | apply keep_drew | apply keep_alloc | refine keep_far ?_ GW187.out _) | exact HK.out)) hk (.inl rfl)); have n3_ := mk_ (hb); have n4_ := mk_ (hi); clear BK187; clear HO192; clear HK; clear HB; clear HI0; have BK187 := n0_; have HO192 := n1_; have HK := n2_; have HB := n3_; have HI0 := n4_; clear n0_ n1_ n2_ n3_ n4_; (try clear hb); (try clear hb2); (try clear hk); (try clear hi); obtain ⟨Ao85, co85, eo85⟩ := Kd.R_slice HO192.out; subst eo85; have p195 : 0 ≤ (t193 : Int) := of_decide_eq_true (by first | (with_reducible assumption) | assumption); have q195 : t193 < (y190.length : Int) := of_decide_eq_true (by first | (with_reducible assumption) | assumption); obtain ⟨ad195, e195, hx195_0⟩ := Kd.at_int (Kd.R_reads' HO192.out).2.2 t193 p195 q195; cases e195; replace p195 := eq_true p195; replace q195 := eq_true q195; clear hA_ A4) | ((with_reducible refine gate_callee (f := 46) rfl ?_); have hA_ := A7.out; refine goesL_ (some 16) rfl rfl Try.func46 (by kernel_rfl) rfl #[.pointer (some ⟨g, 0, none⟩), .int .i64 512] rfl (by (try simp only [lm_, lo_, ln_]); first | done | rfl | (simp only [List.length_drop, List.length_take]; rfl)) ?_; (with_reducible refine (spec_l20Rd_pick.calls k g s0_0 t194 512 t196 t197 w0 _ ?side1 ?side2 A7.out).mono ?_); (case side1 => repeat (first | (with_reducible first | exact HI0.out | apply IsS82.alloc | apply IsS82.drewN | apply IsS82.drew | apply IsS82.set_1 | refine IsS82.far ?_ NB0_187.out _) | exact HI0.out)); (case side2 => repeat (first | (with_reducible first | exact HB.out | apply na_ | apply nn_ | apply nw_ | refine bs_ ?_ (IsS82.ge HI0.out) | refine bs_ ?_ GE187.out) | exact HB.out)); rintro e w86 ⟨rfl, hi, hb, hk⟩; refine ⟨_, rfl, ?_⟩; have n0_ := mk_ (KeepBut.blk hk (g' := gb187) (o := .cells #[.int .i64 0, .int .i64 0, .int .i64 0, .int .i64 0] 88 (0, 0)) (u_ BK187.out) NB187_0.out (by simp)); have n1_ := mk_ (Kd.R_mono (Kd.R_keep (IsS82.apart (show IsS82 w0 _ g s0_0 t194 from by repeat (first | (with_reducible first | exact HI0.out | apply IsS82.alloc | apply IsS82.drewN | apply IsS82.drew | apply IsS82.set_1 | refine IsS82.far ?_ NB0_187.out _) | exact HI0.out)) (Kd.ur_ HO192.out) (by decide)) hk (fun _ h => h.2)) (fun _ h => h.1)); have n2_ := mk_ (KeepBut.trans (by repeat (first | (with_reducible first | exact HK.out | apply KeepBut.set_ | apply keep_drewN | apply keep_drew | apply keep_alloc | refine keep_far ?_ GW187.out _) | exact HK.out)) hk (.inl rfl)); have n3_ := mk_ (hb); have n4_ := mk_ (hi); clear BK187; clear HO192; clear HK; clear HB; clear HI0; have BK187 := n0_; have HO192 := n1_; have HK := n2_; have HB := n3_; have HI0 := n4_; clear n0_ n1_ n2_ n3_ n4_; (try clear hb); (try clear hb2); (try clear hk); (try clear hi); clear hA_ A7) | ((with_reducible refine gate_dst (N := 18) rfl ?_); refine Kd.R_lit (Kd.int .i64) _ 3 ?hg (N := 18) ?hd (xs := ([0, 4096, 4352, 4353, wrap64 (4096 + t196), 65535] : List Int)) (inner := [.int .i64 0, .int .i64 4096, .int .i64 4352, .int .i64 4353, .int .i64 (wrap64 (4096 + t196)), .int .i64 65535]) (ok := fun _ => True) (okp := fun _ => True) ?hr ?hp (fun _ hk => hk) trivial (Below.refl _ _) (Nat.le_refl _) (by simp) ?_; (case hd => rfl); (case hg => rfl); (case hr => first | (go_simp; done) | (go_simp; rfl)); (case hp => exact (Reps.one (show Kd.M (Kd.int .i64) _ _ _ 0 [.int .i64 0] from rfl) (Reps.one (show Kd.M (Kd.int .i64) _ _ _ 4096 [.int .i64 4096] from rfl) (Reps.one (show Kd.M (Kd.int .i64) _ _ _ 4352 [.int .i64 4352] from rfl) (Reps.one (show Kd.M (Kd.int .i64) _ _ _ 4353 [.int .i64 4353] from rfl) (Reps.one (show Kd.M (Kd.int .i64) _ _ _ (wrap64 (4096 + t196)) [.int .i64 (wrap64 (4096 + t196))] from rfl) (Reps.one (show Kd.M (Kd.int .i64) _ _ _ 65535 [.int .i64 65535] from rfl) (Reps.none _ _)))))))); intro v199 w87 ho88 hb hg_ hnew_; clear hg_ hnew_; (first | rw [← Ny198.out] at ho88 | (simp only [Int.reduceToNat] at ho88; rw [← Ny198.out] at ho88)); have n0_ := mk_ (Kd.R_elder' (Kd.ur_ HO192.out) (Kd.R_base ho88) hb); have n1_ := mk_ (Kd.R_lower (Kd.R_new' ho88 (Kd.R_lt (Kd.ur_ HO192.out))) (keep_size (w := w) (g := g) (row := none) (by repeat (first | (with_reducible first | exact HK.out | apply KeepBut.set_ | apply keep_drewN | apply keep_drew | apply keep_alloc | refine keep_far ?_ GW187.out _) | exact HK.out)))); have n2_ := mk_ (IsS82.below (by repeat (first | (with_reducible first | exact HI0.out | apply IsS82.alloc | apply IsS82.drewN | apply IsS82.drew | apply IsS82.set_1 | refine IsS82.far ?_ NB0_187.out _) | exact HI0.out)) hb); have n3_ := mk_ (blk_below (u_ BK187.out) hb); have n4_ := mk_ (KeepBut.trans (by repeat (first | (with_reducible first | exact HK.out | apply KeepBut.set_ | apply keep_drewN | apply keep_drew | apply keep_alloc | refine keep_far ?_ GW187.out _) | exact HK.out)) (KeepBut.of_below hb g none) (.inl rfl)); have n5_ := mk_ (below_step (by repeat (first | (with_reducible first | exact HB.out | apply na_ | apply nn_ | apply nw_ | refine bs_ ?_ (IsS82.ge HI0.out) | refine bs_ ?_ GE187.out) | exact HB.out)) hb); clear HO192; clear HI0; clear BK187; clear HK; clear HB; have HO192 := n0_; have HO200 := n1_; have HI0 := n2_; have BK187 := n3_; have HK := n4_; have HB := n5_; clear n0_ n1_ n2_ n3_ n4_ n5_; clear hb ho88) | ((with_reducible refine gate_callee (f := 46) rfl ?_); have hA_ := A8.out; refine goesL_ (some 20) rfl rfl Try.func46 (by kernel_rfl) rfl #[.pointer (some ⟨g, 0, none⟩), .int .i64 6] rfl (by (try simp only [lm_, lo_, ln_]); first | done | rfl | (simp only [List.length_drop, List.length_take]; rfl)) ?_; (with_reducible refine (spec_l20Rd_pick.calls k g s0_0 t197 6 t201 t202 w0 _ ?side1 ?side2 A8.out).mono ?_); (case side1 => repeat (first | (with_reducible first | exact HI0.out | apply IsS82.alloc | apply IsS82.drewN | apply IsS82.drew | apply IsS82.set_1 | refine IsS82.far ?_ NB0_187.out _) | exact HI0.out)); (case side2 => repeat (first | (with_reducible first | exact HB.out | apply na_ | apply nn_ | apply nw_ | refine bs_ ?_ (IsS82.ge HI0.out) | refine bs_ ?_ GE187.out) | exact HB.out)); rintro e w89 ⟨rfl, hi, hb, hk⟩; refine ⟨_, rfl, ?_⟩; have n0_ := mk_ (KeepBut.blk hk (g' := gb187) (o := .cells #[.int .i64 0, .int .i64 0, .int .i64 0, .int .i64 0] 88 (0, 0)) (u_ BK187.out) NB187_0.out (by simp)); have n1_ := mk_ (Kd.R_mono (Kd.R_keep (IsS82.apart (show IsS82 w0 _ g s0_0 t197 from by repeat (first | (with_reducible first | exact HI0.out | apply IsS82.alloc | apply IsS82.drewN | apply IsS82.drew | apply IsS82.set_1 | refine IsS82.far ?_ NB0_187.out _) | exact HI0.out)) (Kd.ur_ HO192.out) (by decide)) hk (fun _ h => h.2)) (fun _ h => h.1)); have n2_ := mk_ (Kd.R_mono (Kd.R_keep (IsS82.apart (show IsS82 w0 _ g s0_0 t197 from by repeat (first | (with_reducible first | exact HI0.out | apply IsS82.alloc | apply IsS82.drewN | apply IsS82.drew | apply IsS82.set_1 | refine IsS82.far ?_ NB0_187.out _) | exact HI0.out)) (Kd.ur_ HO200.out) (by decide)) hk (fun _ h => h.2)) (fun _ h => h.1)); have n3_ := mk_ (KeepBut.trans (by repeat (first | (with_reducible first | exact HK.out | apply KeepBut.set_ | apply keep_drewN | apply keep_drew | apply keep_alloc | refine keep_far ?_ GW187.out _) | exact HK.out)) hk (.inl rfl)); have n4_ := mk_ (hb); have n5_ := mk_ (hi); clear BK187; clear HO192; clear HO200; clear HK; clear HB; clear HI0; have BK187 := n0_; have HO192 := n1_; have HO200 := n2_; have HK := n3_; have HB := n4_; have HI0 := n5_; clear n0_ n1_ n2_ n3_ n4_ n5_; (try clear hb); (try clear hb2); (try clear hk); (try clear hi); obtain ⟨Ao90, co90, eo90⟩ := Kd.R_slice HO200.out; subst eo90; have p203 : 0 ≤ (t201 : Int) := of_decide_eq_true (by first | (with_reducible assumption) | assumption); have q203 : t201 < (y198.length : Int) := of_decide_eq_true (by first | (with_reducible assumption) | assumption); obtain ⟨ad203, e203, hx203_0⟩ := Kd.at_int (Kd.R_reads' HO200.out).2.2 t201 p203 q203; cases e203; replace p203 := eq_true p203; replace q203 := eq_true q203; clear hA_ A8))
  have n0_ := mk_ (Kd.R_drew HO192.out)
  have n1_ := mk_ (Kd.R_drew HO200.out)
  have n2_ := mk_ (blk_drew BK187.out)
  have n3_ := mk_ (IsS82.drew HI0.out)
  have n4_ := mk_ (keep_drew HK.out)
  have n5_ := mk_ (below_drew1 HB.out)
  clear HO192
  clear HO200
  clear BK187
  clear HI0
  clear HK
  clear HB
  have HO192 := n0_
  have HO200 := n1_
  have BK187 := n2_
  have HI0 := n3_
  have HK := n4_
  have HB := n5_
  clear n0_ n1_ n2_ n3_ n4_ n5_
  refine start_ (n := 17) (S := fun w' => True) (ds := []) #[F_, F_, F_, F_, F_, F_, F_, F_, F_, F_, F_, F_, F_, F_, F_, F_, F_] (by kernel_rfl) rfl rfl trivial (fun hHeld => ?_); refine with_tabW spec_l20Route.tab3 spec_l20Route.bits3 (fun HT_ HW_ => ?_)
  generalize w89.drew = w91 at HO192 HO200 BK187 HI0 HK HB hHeld ⊢
  refine pure_ (i := 0) (N := some 23) (v := ?_) (a' := ?_) #[T_, F_, F_, F_, F_, F_, F_, F_, F_, F_, F_, F_, F_, F_, F_, F_, F_] rfl rfl (any_of HT_.out (by kernel_rfl)) (fun _ _ _ h => h) (Or.inl ⟨by rfl, ?_⟩) ?_ ?_
  rotate_left
  ·intro w'
   go_simp
   with_reducible rfl
  rotate_left
  ·simp only [Act.put, la_, lz_, ls_, i64_w, i32_w]
   rfl
  refine pure_ (i := 1) (N := some 24) (v := ?_) (a' := ?_) #[T_, T_, F_, F_, F_, F_, F_, F_, F_, F_, F_, F_, F_, F_, F_, F_, F_] rfl rfl (any_of HT_.out (by kernel_rfl)) (fun _ _ _ h => h) (Or.inl ⟨by rfl, ?_⟩) ?_ ?_
  rotate_left
  ·intro w'
   go_simp
   with_reducible rfl
  rotate_left
  ·simp only [Act.put, la_, lz_, ls_, i64_w, i32_w]
   rfl
  refine pure_ (i := 2) (N := some 25) (v := ?_) (a' := ?_) #[T_, T_, T_, F_, F_, F_, F_, F_, F_, F_, F_, F_, F_, F_, F_, F_, F_] rfl rfl (any_of HT_.out (by kernel_rfl)) (fun _ _ _ h => h) (Or.inl ⟨by rfl, ?_⟩) ?_ ?_
  rotate_left
  ·intro w'
   go_simp
   with_reducible rfl
  rotate_left
  ·simp only [Act.put, la_, lz_, ls_, i64_w, i32_w]
   rfl
  refine pure_ (i := 3) (N := some 26) (v := ?_) (a' := ?_) #[T_, T_, T_, T_, F_, F_, F_, F_, F_, F_, F_, F_, F_, F_, F_, F_, F_] rfl rfl (any_of HT_.out (by kernel_rfl)) (fun _ _ _ h => h) (Or.inl ⟨by rfl, ?_⟩) ?_ ?_
  rotate_left
  ·intro w'
   go_simp
   with_reducible rfl
  rotate_left
  ·simp only [Act.put, la_, lz_, ls_, i64_w, i32_w]
   rfl
  refine pure_ (i := 4) (N := some 27) (v := ?_) (a' := ?_) #[T_, T_, T_, T_, T_, F_, F_, F_, F_, F_, F_, F_, F_, F_, F_, F_, F_] rfl rfl (any_of HT_.out (by kernel_rfl)) (fun _ _ _ h => h) (Or.inl ⟨by rfl, ?_⟩) ?_ ?_
  rotate_left
  ·intro w'
   go_simp
   with_reducible rfl
  rotate_left
  ·simp only [Act.put, la_, lz_, ls_, i64_w, i32_w]
   rfl
  refine pure_ (i := 5) (N := some 28) (v := ?_) (a' := ?_) #[T_, T_, T_, T_, T_, T_, F_, F_, F_, F_, F_, F_, F_, F_, F_, F_, F_] rfl rfl (any_of HT_.out (by kernel_rfl)) (fun _ _ _ h => h) (Or.inl ⟨by rfl, ?_⟩) ?_ ?_
  rotate_left
  ·intro w'
   go_simp
   with_reducible rfl
  rotate_left
  ·simp only [Act.put, la_, lz_, ls_, i64_w, i32_w]
   rfl
  refine pure_ (i := 6) (N := some 29) (v := ?_) (a' := ?_) #[T_, T_, T_, T_, T_, T_, T_, F_, F_, F_, F_, F_, F_, F_, F_, F_, F_] rfl rfl (any_of HT_.out (by kernel_rfl)) (fun _ _ _ h => h) (Or.inl ⟨by rfl, ?_⟩) ?_ ?_
  rotate_left
  ·intro w'
   go_simp
   with_reducible rfl
  rotate_left
  ·simp only [Act.put, la_, lz_, ls_, i64_w, i32_w]
   rfl
  refine pure_ (i := 7) (N := some 30) (v := ?_) (a' := ?_) #[T_, T_, T_, T_, T_, T_, T_, T_, F_, F_, F_, F_, F_, F_, F_, F_, F_] rfl rfl (any_of HT_.out (by kernel_rfl)) (fun _ _ _ h => h) (Or.inl ⟨by rfl, ?_⟩) ?_ ?_
  rotate_left
  ·intro w'
   go_simp
   with_reducible rfl
  rotate_left
  ·simp only [Act.put, la_, lz_, ls_, i64_w, i32_w]
   rfl
  refine pure_ (i := 8) (N := some 31) (v := ?_) (a' := ?_) #[T_, T_, T_, T_, T_, T_, T_, T_, T_, F_, F_, F_, F_, F_, F_, F_, F_] rfl rfl (any_of HT_.out (by kernel_rfl)) (fun _ _ _ h => h) (Or.inl ⟨by rfl, ?_⟩) ?_ ?_
  rotate_left
  ·intro w'
   go_simp
   with_reducible rfl
  rotate_left
  ·simp only [Act.put, la_, lz_, ls_, i64_w, i32_w]
   rfl
  refine pure_ (i := 10) (N := some 33) (v := ?_) (a' := ?_) #[T_, T_, T_, T_, T_, T_, T_, T_, T_, F_, T_, F_, F_, F_, F_, F_, F_] rfl rfl (any_of HT_.out (by kernel_rfl)) (fun _ _ _ h => h) (Or.inl ⟨by rfl, ?_⟩) ?_ ?_
  rotate_left
  ·intro w'
   go_simp
   with_reducible rfl
  rotate_left
  ·simp only [Act.put, la_, lz_, ls_, i64_w, i32_w]
   rfl
  refine join_ (σ := Nat) 1 #[T_, T_, T_, T_, T_, T_, T_, T_, T_, T_, T_, T_, T_, T_, T_, T_, F_] (fun s_ => [(32, .int .i64 t204), (34, .int .i64 t206), (7, .pointer (some ⟨s_, 0, none⟩)), (35, .int .i64 (wrap64 (t206 * 6))), (36, .int .i64 (wrap64 (4 + (wrap64 (t206 * 6))))), (37, .agg #[.int .i64 (wrap64 ((rd y198 t201) - (Int.tmod (rd y198 t201) (ji13)))), .int .i64 (rd y190 t193), .int .i64 t204, .int .i64 (wrap64 (4 + (wrap64 (t206 * 6))))])]) (fun s_ w' => (Kd.R (Kd.int .i64) 3 w' w.heap.size (fun k_ => some k_ ≠ (.slice (some ad203) y198.length co90 : Value).ownBlock) (.slice (some ad195) y190.length co85) y190) ∧ (Kd.R (Kd.int .i64) 3 w' w.heap.size (fun k_ => some k_ ≠ (.slice (some ad195) y190.length co85 : Value).ownBlock) (.slice (some ad203) y198.length co90) y198) ∧ (w'.heap[gb187]? = some (.cells #[.int .i64 0, .int .i64 0, .int .i64 0, .int .i64 0] 88 (0, 0))) ∧ (w'.heap[s_]? = some (.cells #[.int .i64 0, .int .i64 0, .int .i64 0, .int .i64 0] 88 (0, 0))) ∧ (w.heap.size ≤ s_) ∧ (w0.heap.size ≤ s_) ∧ (g ≠ s_) ∧ (s_ ≠ g) ∧ (gb187 ≠ s_) ∧ (s_ ≠ gb187) ∧ (IsS82 w0 w' g s0_0 t207) ∧ (KeepBut w w' g none) ∧ (Below w0.heap.size w0 w')) ?_ ?_
  rotate_left
  ·intro hCont
   refine two_ (i := 9) (j := 15) (Ni := some 32) (Nj := some 7) #[T_, T_, T_, T_, T_, T_, T_, T_, T_, T_, T_, F_, F_, F_, F_, F_, F_] #[T_, T_, T_, T_, T_, T_, T_, T_, T_, F_, T_, F_, F_, F_, F_, T_, F_] rfl rfl rfl rfl (two_of HT_.out (by kernel_rfl)) (by decide) (by decide) (fun K hK => ?_) (fun K hK => ?_)
   ·skip
    refine goes_ Try.func46 (by kernel_rfl) rfl #[.pointer (some ⟨g, 0, none⟩), .int .i64 3] (by rfl) rfl rfl (by (try simp only [lm_, lo_, ln_]); first | done | rfl | (simp only [List.length_drop, List.length_take]; rfl)) ?_
    with_reducible refine (spec_l20Rd_pick.calls k g s0_0 t202 3 t204 t205 w0 _ ?side1 ?side2 A15.out).mono ?_
    (case side1 => repeat (first | (with_reducible first | exact HI0.out | apply IsS82.alloc | apply IsS82.drewN | apply IsS82.drew | apply IsS82.set_1 | refine IsS82.far ?_ NB0_187.out _) | exact HI0.out))
    (case side2 => repeat (first | (with_reducible first | exact HB.out | apply na_ | apply nn_ | apply nw_ | refine bs_ ?_ (IsS82.ge HI0.out) | refine bs_ ?_ GE187.out) | exact HB.out))
    rintro e w92 ⟨rfl, hi, hb, hk⟩
    refine ⟨_, rfl, ?_⟩
    have n0_ := mk_ (KeepBut.blk hk (g' := gb187) (o := .cells #[.int .i64 0, .int .i64 0, .int .i64 0, .int .i64 0] 88 (0, 0)) (u_ BK187.out) NB187_0.out (by simp))
    have n1_ := mk_ (Kd.R_mono (Kd.R_keep (IsS82.apart (show IsS82 w0 _ g s0_0 t202 from by repeat (first | (with_reducible first | exact HI0.out | apply IsS82.alloc | apply IsS82.drewN | apply IsS82.drew | apply IsS82.set_1 | refine IsS82.far ?_ NB0_187.out _) | exact HI0.out)) (Kd.ur_ HO192.out) (by decide)) hk (fun _ h => h.2)) (fun _ h => h.1))
    have n2_ := mk_ (Kd.R_mono (Kd.R_keep (IsS82.apart (show IsS82 w0 _ g s0_0 t202 from by repeat (first | (with_reducible first | exact HI0.out | apply IsS82.alloc | apply IsS82.drewN | apply IsS82.drew | apply IsS82.set_1 | refine IsS82.far ?_ NB0_187.out _) | exact HI0.out)) (Kd.ur_ HO200.out) (by decide)) hk (fun _ h => h.2)) (fun _ h => h.1))
    have n3_ := mk_ (KeepBut.trans (by repeat (first | (with_reducible first | exact HK.out | apply KeepBut.set_ | apply keep_drewN | apply keep_drew | apply keep_alloc | refine keep_far ?_ GW187.out _) | exact HK.out)) hk (.inl rfl))
    have n4_ := mk_ (hb)
    have n5_ := mk_ (hi)
    clear BK187
    clear HO192
    clear HO200
    clear HK
    clear HB
    clear HI0
    have BK187 := n0_
    have HO192 := n1_
    have HO200 := n2_
    have HK := n3_
    have HB := n4_
    have HI0 := n5_
    clear n0_ n1_ n2_ n3_ n4_ n5_
    (try clear hb)
    (try clear hb2)
    (try clear hk)
    (try clear hi)
    refine hK.out _ _ trivial (fun hHeld => ?_)
    clear hK K
    refine norm_ (a' := ?_) ?_ ?_
    rotate_left
    ·show Act.put _ (some 32) _ = _
     simp only [Act.put, la_, lz_, ls_, i64_w, i32_w]
     rfl
    refine two_ (i := 11) (j := 15) (Ni := some 34) (Nj := some 7) #[T_, T_, T_, T_, T_, T_, T_, T_, T_, T_, T_, T_, F_, F_, F_, F_, F_] #[T_, T_, T_, T_, T_, T_, T_, T_, T_, T_, T_, F_, F_, F_, F_, T_, F_] rfl rfl rfl rfl (two_of HT_.out (by kernel_rfl)) (by decide) (by decide) (fun K hK => ?_) (fun K hK => ?_)
    ·skip
     refine goes_ Try.func46 (by kernel_rfl) rfl #[.pointer (some ⟨g, 0, none⟩), .int .i64 3] (by rfl) rfl rfl (by (try simp only [lm_, lo_, ln_]); first | done | rfl | (simp only [List.length_drop, List.length_take]; rfl)) ?_
     with_reducible refine (spec_l20Rd_pick.calls k g s0_0 t205 3 t206 t207 w0 _ ?side1 ?side2 A16.out).mono ?_
     (case side1 => repeat (first | (with_reducible first | exact HI0.out | apply IsS82.alloc | apply IsS82.drewN | apply IsS82.drew | apply IsS82.set_1 | refine IsS82.far ?_ NB0_187.out _) | exact HI0.out))
     (case side2 => repeat (first | (with_reducible first | exact HB.out | apply na_ | apply nn_ | apply nw_ | refine bs_ ?_ (IsS82.ge HI0.out) | refine bs_ ?_ GE187.out) | exact HB.out))
     rintro e w93 ⟨rfl, hi, hb, hk⟩
     refine ⟨_, rfl, ?_⟩
     have n0_ := mk_ (KeepBut.blk hk (g' := gb187) (o := .cells #[.int .i64 0, .int .i64 0, .int .i64 0, .int .i64 0] 88 (0, 0)) (u_ BK187.out) NB187_0.out (by simp))
     have n1_ := mk_ (Kd.R_mono (Kd.R_keep (IsS82.apart (show IsS82 w0 _ g s0_0 t205 from by repeat (first | (with_reducible first | exact HI0.out | apply IsS82.alloc | apply IsS82.drewN | apply IsS82.drew | apply IsS82.set_1 | refine IsS82.far ?_ NB0_187.out _) | exact HI0.out)) (Kd.ur_ HO192.out) (by decide)) hk (fun _ h => h.2)) (fun _ h => h.1))
     have n2_ := mk_ (Kd.R_mono (Kd.R_keep (IsS82.apart (show IsS82 w0 _ g s0_0 t205 from by repeat (first | (with_reducible first | exact HI0.out | apply IsS82.alloc | apply IsS82.drewN | apply IsS82.drew | apply IsS82.set_1 | refine IsS82.far ?_ NB0_187.out _) | exact HI0.out)) (Kd.ur_ HO200.out) (by decide)) hk (fun _ h => h.2)) (fun _ h => h.1))
     have n3_ := mk_ (KeepBut.trans (by repeat (first | (with_reducible first | exact HK.out | apply KeepBut.set_ | apply keep_drewN | apply keep_drew | apply keep_alloc | refine keep_far ?_ GW187.out _) | exact HK.out)) hk (.inl rfl))
     have n4_ := mk_ (hb)
     have n5_ := mk_ (hi)
     clear BK187
     clear HO192
     clear HO200
     clear HK
     clear HB
     clear HI0
     have BK187 := n0_
     have HO192 := n1_
     have HO200 := n2_
     have HK := n3_
     have HB := n4_
     have HI0 := n5_
     clear n0_ n1_ n2_ n3_ n4_ n5_
     (try clear hb)
     (try clear hb2)
     (try clear hk)
     (try clear hi)
     refine hK.out _ _ trivial (fun hHeld => ?_)
     clear hK K
     refine norm_ (a' := ?_) ?_ ?_
     rotate_left
     ·show Act.put _ (some 34) _ = _
      simp only [Act.put, la_, lz_, ls_, i64_w, i32_w]
      rfl
     refine pure_ (i := 12) (N := some 35) (v := ?_) (a' := ?_) #[T_, T_, T_, T_, T_, T_, T_, T_, T_, T_, T_, T_, T_, F_, F_, F_, F_] rfl rfl (any_of HT_.out (by kernel_rfl)) (fun _ _ _ h => h) (Or.inl ⟨by rfl, ?_⟩) ?_ ?_
     rotate_left
     ·intro w'
      go_simp
      with_reducible rfl
     rotate_left
     ·simp only [Act.put, la_, lz_, ls_, i64_w, i32_w]
      rfl
     refine pure_ (i := 13) (N := some 36) (v := ?_) (a' := ?_) #[T_, T_, T_, T_, T_, T_, T_, T_, T_, T_, T_, T_, T_, T_, F_, F_, F_] rfl rfl (any_of HT_.out (by kernel_rfl)) (fun _ _ _ h => h) (Or.inl ⟨by rfl, ?_⟩) ?_ ?_
     rotate_left
     ·intro w'
      go_simp
      with_reducible rfl
     rotate_left
     ·simp only [Act.put, la_, lz_, ls_, i64_w, i32_w]
      rfl
     refine pure_ (i := 14) (N := some 37) (v := ?_) (a' := ?_) #[T_, T_, T_, T_, T_, T_, T_, T_, T_, T_, T_, T_, T_, T_, T_, F_, F_] rfl rfl (any_of HT_.out (by kernel_rfl)) (fun _ _ _ h => h) (Or.inl ⟨by rfl, ?_⟩) ?_ ?_
     rotate_left
     ·intro w'
      go_simp
      with_reducible rfl
     rotate_left
     ·simp only [Act.put, la_, lz_, ls_, i64_w, i32_w]
      rfl
     refine one_ (i := 15) (N := some 7) #[T_, T_, T_, T_, T_, T_, T_, T_, T_, T_, T_, T_, T_, T_, T_, T_, F_] rfl rfl (one_of HT_.out (by kernel_rfl)) (by decide) (fun K hK => ?_)
     refine box_step ?hg (N := 7) ?hd (cs := #[.int .i64 0, .int .i64 0, .int .i64 0, .int .i64 0]) (t := 88) ?hr ?_; (case hd => rfl); (case hg => rfl); (case hr => first | (go_simp; done) | (go_simp; rfl))
     intro gb208 hg w94 hbox hb
     have n0_ := mk_ (Kd.R_below (Kd.ur_ HO192.out) hb)
     have n1_ := mk_ (Kd.R_below (Kd.ur_ HO200.out) hb)
     have n2_ := mk_ (IsS82.below (by repeat (first | (with_reducible first | exact HI0.out | apply IsS82.alloc | apply IsS82.drewN | apply IsS82.drew | apply IsS82.set_1 | refine IsS82.far ?_ NB0_187.out _) | exact HI0.out)) hb)
     have n3_ := mk_ (blk_below (u_ BK187.out) hb)
     have n4_ := mk_ (KeepBut.trans (by repeat (first | (with_reducible first | exact HK.out | apply KeepBut.set_ | apply keep_drewN | apply keep_drew | apply keep_alloc | refine keep_far ?_ GW187.out _) | exact HK.out)) (KeepBut.of_below hb g none) (.inl rfl))
     have n5_ := mk_ (below_step (by repeat (first | (with_reducible first | exact HB.out | apply na_ | apply nn_ | apply nw_ | refine bs_ ?_ (IsS82.ge HI0.out) | refine bs_ ?_ GE187.out) | exact HB.out)) hb)
     have n6_ := mk_ (hbox)
     have n7_ := mk_ ((by rw [hg]; exact (keep_size (w := w) (g := g) (row := none) (by repeat (first | (with_reducible first | exact HK.out | apply KeepBut.set_ | apply keep_drewN | apply keep_drew | apply keep_alloc | refine keep_far ?_ GW187.out _) | exact HK.out))) : w.heap.size ≤ gb208))
     have n8_ := mk_ ((Nat.le_trans HW0.out (by rw [hg]; exact (keep_size (w := w) (g := g) (row := none) (by repeat (first | (with_reducible first | exact HK.out | apply KeepBut.set_ | apply keep_drewN | apply keep_drew | apply keep_alloc | refine keep_far ?_ GW187.out _) | exact HK.out))) : w.heap.size ≤ gb208) : w0.heap.size ≤ gb208))
     have n9_ := mk_ ((by rw [hg]; exact Nat.ne_of_lt (blk_lt (u_ BK187.out)) : gb187 ≠ gb208))
     have n10_ := mk_ ((by rw [hg]; exact Nat.ne_of_gt (blk_lt (u_ BK187.out)) : gb208 ≠ gb187))
     have n11_ := mk_ ((by rw [hg]; exact Nat.ne_of_lt (IsS82.lt (show IsS82 w0 _ g s0_0 t207 from by repeat (first | (with_reducible first | exact HI0.out | apply IsS82.alloc | apply IsS82.drewN | apply IsS82.drew | apply IsS82.set_1 | refine IsS82.far ?_ NB0_187.out _) | exact HI0.out))) : g ≠ gb208))
     have n12_ := mk_ ((by rw [hg]; exact Nat.ne_of_gt (IsS82.lt (show IsS82 w0 _ g s0_0 t207 from by repeat (first | (with_reducible first | exact HI0.out | apply IsS82.alloc | apply IsS82.drewN | apply IsS82.drew | apply IsS82.set_1 | refine IsS82.far ?_ NB0_187.out _) | exact HI0.out))) : gb208 ≠ g))
     clear HO192
     clear HO200
     clear HI0
     clear BK187
     clear HK
     clear HB
     have HO192 := n0_
     have HO200 := n1_
     have HI0 := n2_
     have BK187 := n3_
     have HK := n4_
     have HB := n5_
     have BK208 := n6_
     have GW208 := n7_
     have GE208 := ge_ n8_.out
     have NB187_208 := nq_ n9_.out
     have NB208_187 := nq_ n10_.out
     have NB0_208 := nq_ n11_.out
     have NB208_0 := nq_ n12_.out
     clear n0_ n1_ n2_ n3_ n4_ n5_ n6_ n7_ n8_ n9_ n10_ n11_ n12_
     clear hb hbox hg
     refine hK.out _ _ trivial (fun hHeld => ?_)
     clear hK K
     refine norm_ (a' := ?_) ?_ ?_
     rotate_left
     ·show Act.put _ (some 7) _ = _
      simp only [Act.put, la_, lz_, ls_, i64_w, i32_w]
      rfl
     exact norm_ (by simp only [putAll, Act.put, la_, lz_, ls_]) (hCont (gb208) _ ⟨(by (with_reducible repeat (first | apply Kd.R_alloc | apply Kd.R_drewN | apply Kd.R_drew)); exact Kd.R_mono HO192.out (fun _ hk => hk.2)), (by (with_reducible repeat (first | apply Kd.R_alloc | apply Kd.R_drewN | apply Kd.R_drew)); exact Kd.R_mono HO200.out (fun _ hk => hk.2)), (u_ BK187.out), (u_ BK208.out), GW208.out, GE208.out, NB0_208.out, NB208_0.out, NB187_208.out, NB208_187.out, (by repeat (first | (with_reducible first | exact HI0.out | apply IsS82.alloc | apply IsS82.drewN | apply IsS82.drew | apply IsS82.set_1 | refine IsS82.far ?_ NB0_187.out _ | refine IsS82.far ?_ NB0_208.out _) | exact HI0.out)), (by repeat (first | (with_reducible first | exact HK.out | apply KeepBut.set_ | apply keep_drewN | apply keep_drew | apply keep_alloc | refine keep_far ?_ GW187.out _ | refine keep_far ?_ GW208.out _) | exact HK.out)), (by repeat (first | (with_reducible first | exact HB.out | apply na_ | apply nn_ | apply nw_ | refine bs_ ?_ (IsS82.ge HI0.out) | refine bs_ ?_ GE187.out | refine bs_ ?_ GE208.out) | exact HB.out))⟩)
    skip
    refine box_step ?hg (N := 7) ?hd (cs := #[.int .i64 0, .int .i64 0, .int .i64 0, .int .i64 0]) (t := 88) ?hr ?_; (case hd => rfl); (case hg => rfl); (case hr => first | (go_simp; done) | (go_simp; rfl))
    intro gb208 hg w93 hbox hb
    have n0_ := mk_ (Kd.R_below (Kd.ur_ HO192.out) hb)
    have n1_ := mk_ (Kd.R_below (Kd.ur_ HO200.out) hb)
    have n2_ := mk_ (IsS82.below (by repeat (first | (with_reducible first | exact HI0.out | apply IsS82.alloc | apply IsS82.drewN | apply IsS82.drew | apply IsS82.set_1 | refine IsS82.far ?_ NB0_187.out _) | exact HI0.out)) hb)
    have n3_ := mk_ (blk_below (u_ BK187.out) hb)
    have n4_ := mk_ (KeepBut.trans (by repeat (first | (with_reducible first | exact HK.out | apply KeepBut.set_ | apply keep_drewN | apply keep_drew | apply keep_alloc | refine keep_far ?_ GW187.out _) | exact HK.out)) (KeepBut.of_below hb g none) (.inl rfl))
    have n5_ := mk_ (below_step (by repeat (first | (with_reducible first | exact HB.out | apply na_ | apply nn_ | apply nw_ | refine bs_ ?_ (IsS82.ge HI0.out) | refine bs_ ?_ GE187.out) | exact HB.out)) hb)
    have n6_ := mk_ (hbox)
    have n7_ := mk_ ((by rw [hg]; exact (keep_size (w := w) (g := g) (row := none) (by repeat (first | (with_reducible first | exact HK.out | apply KeepBut.set_ | apply keep_drewN | apply keep_drew | apply keep_alloc | refine keep_far ?_ GW187.out _) | exact HK.out))) : w.heap.size ≤ gb208))
    have n8_ := mk_ ((Nat.le_trans HW0.out (by rw [hg]; exact (keep_size (w := w) (g := g) (row := none) (by repeat (first | (with_reducible first | exact HK.out | apply KeepBut.set_ | apply keep_drewN | apply keep_drew | apply keep_alloc | refine keep_far ?_ GW187.out _) | exact HK.out))) : w.heap.size ≤ gb208) : w0.heap.size ≤ gb208))
    have n9_ := mk_ ((by rw [hg]; exact Nat.ne_of_lt (blk_lt (u_ BK187.out)) : gb187 ≠ gb208))
    have n10_ := mk_ ((by rw [hg]; exact Nat.ne_of_gt (blk_lt (u_ BK187.out)) : gb208 ≠ gb187))
    have n11_ := mk_ ((by rw [hg]; exact Nat.ne_of_lt (IsS82.lt (show IsS82 w0 _ g s0_0 t205 from by repeat (first | (with_reducible first | exact HI0.out | apply IsS82.alloc | apply IsS82.drewN | apply IsS82.drew | apply IsS82.set_1 | refine IsS82.far ?_ NB0_187.out _) | exact HI0.out))) : g ≠ gb208))
    have n12_ := mk_ ((by rw [hg]; exact Nat.ne_of_gt (IsS82.lt (show IsS82 w0 _ g s0_0 t205 from by repeat (first | (with_reducible first | exact HI0.out | apply IsS82.alloc | apply IsS82.drewN | apply IsS82.drew | apply IsS82.set_1 | refine IsS82.far ?_ NB0_187.out _) | exact HI0.out))) : gb208 ≠ g))
    clear HO192
    clear HO200
    clear HI0
    clear BK187
    clear HK
    clear HB
    have HO192 := n0_
    have HO200 := n1_
    have HI0 := n2_
    have BK187 := n3_
    have HK := n4_
    have HB := n5_
    have BK208 := n6_
    have GW208 := n7_
    have GE208 := ge_ n8_.out
    have NB187_208 := nq_ n9_.out
    have NB208_187 := nq_ n10_.out
    have NB0_208 := nq_ n11_.out
    have NB208_0 := nq_ n12_.out
    clear n0_ n1_ n2_ n3_ n4_ n5_ n6_ n7_ n8_ n9_ n10_ n11_ n12_
    clear hb hbox hg
    refine hK.out _ _ trivial (fun hHeld => ?_)
    clear hK K
    refine norm_ (a' := ?_) ?_ ?_
    rotate_left
    ·show Act.put _ (some 7) _ = _
     simp only [Act.put, la_, lz_, ls_, i64_w, i32_w]
     rfl
    refine one_ (i := 11) (N := some 34) #[T_, T_, T_, T_, T_, T_, T_, T_, T_, T_, T_, T_, F_, F_, F_, T_, F_] rfl rfl (one_of HT_.out (by kernel_rfl)) (by decide) (fun K hK => ?_)
    refine goes_ Try.func46 (by kernel_rfl) rfl #[.pointer (some ⟨g, 0, none⟩), .int .i64 3] (by rfl) rfl rfl (by (try simp only [lm_, lo_, ln_]); first | done | rfl | (simp only [List.length_drop, List.length_take]; rfl)) ?_
    with_reducible refine (spec_l20Rd_pick.calls k g s0_0 t205 3 t206 t207 w0 _ ?side1 ?side2 A16.out).mono ?_
    (case side1 => repeat (first | (with_reducible first | exact HI0.out | apply IsS82.alloc | apply IsS82.drewN | apply IsS82.drew | apply IsS82.set_1 | refine IsS82.far ?_ NB0_187.out _ | refine IsS82.far ?_ NB0_208.out _) | exact HI0.out))
    (case side2 => repeat (first | (with_reducible first | exact HB.out | apply na_ | apply nn_ | apply nw_ | refine bs_ ?_ (IsS82.ge HI0.out) | refine bs_ ?_ GE187.out | refine bs_ ?_ GE208.out) | exact HB.out))
    rintro e w94 ⟨rfl, hi, hb, hk⟩
    refine ⟨_, rfl, ?_⟩
    have n0_ := mk_ (KeepBut.blk hk (g' := gb187) (o := .cells #[.int .i64 0, .int .i64 0, .int .i64 0, .int .i64 0] 88 (0, 0)) (u_ BK187.out) NB187_0.out (by simp))
    have n1_ := mk_ (Kd.R_mono (Kd.R_keep (IsS82.apart (show IsS82 w0 _ g s0_0 t205 from by repeat (first | (with_reducible first | exact HI0.out | apply IsS82.alloc | apply IsS82.drewN | apply IsS82.drew | apply IsS82.set_1 | refine IsS82.far ?_ NB0_187.out _ | refine IsS82.far ?_ NB0_208.out _) | exact HI0.out)) (Kd.ur_ HO192.out) (by decide)) hk (fun _ h => h.2)) (fun _ h => h.1))
    have n2_ := mk_ (Kd.R_mono (Kd.R_keep (IsS82.apart (show IsS82 w0 _ g s0_0 t205 from by repeat (first | (with_reducible first | exact HI0.out | apply IsS82.alloc | apply IsS82.drewN | apply IsS82.drew | apply IsS82.set_1 | refine IsS82.far ?_ NB0_187.out _ | refine IsS82.far ?_ NB0_208.out _) | exact HI0.out)) (Kd.ur_ HO200.out) (by decide)) hk (fun _ h => h.2)) (fun _ h => h.1))
    have n3_ := mk_ (KeepBut.blk hk (g' := gb208) (o := .cells #[.int .i64 0, .int .i64 0, .int .i64 0, .int .i64 0] 88 (0, 0)) (u_ BK208.out) NB208_0.out (by simp))
    have n4_ := mk_ (KeepBut.trans (by repeat (first | (with_reducible first | exact HK.out | apply KeepBut.set_ | apply keep_drewN | apply keep_drew | apply keep_alloc | refine keep_far ?_ GW187.out _ | refine keep_far ?_ GW208.out _) | exact HK.out)) hk (.inl rfl))
    have n5_ := mk_ (hb)
    have n6_ := mk_ (hi)
    clear BK187
    clear HO192
    clear HO200
    clear BK208
    clear HK
    clear HB
    clear HI0
    have BK187 := n0_
    have HO192 := n1_
    have HO200 := n2_
    have BK208 := n3_
    have HK := n4_
    have HB := n5_
    have HI0 := n6_
    clear n0_ n1_ n2_ n3_ n4_ n5_ n6_
    (try clear hb)
    (try clear hb2)
    (try clear hk)
    (try clear hi)
    refine hK.out _ _ trivial (fun hHeld => ?_)
    clear hK K
    refine norm_ (a' := ?_) ?_ ?_
    rotate_left
    ·show Act.put _ (some 34) _ = _
     simp only [Act.put, la_, lz_, ls_, i64_w, i32_w]
     rfl
    refine pure_ (i := 12) (N := some 35) (v := ?_) (a' := ?_) #[T_, T_, T_, T_, T_, T_, T_, T_, T_, T_, T_, T_, T_, F_, F_, T_, F_] rfl rfl (any_of HT_.out (by kernel_rfl)) (fun _ _ _ h => h) (Or.inl ⟨by rfl, ?_⟩) ?_ ?_
    rotate_left
    ·intro w'
     go_simp
     with_reducible rfl
    rotate_left
    ·simp only [Act.put, la_, lz_, ls_, i64_w, i32_w]
     rfl
    refine pure_ (i := 13) (N := some 36) (v := ?_) (a' := ?_) #[T_, T_, T_, T_, T_, T_, T_, T_, T_, T_, T_, T_, T_, T_, F_, T_, F_] rfl rfl (any_of HT_.out (by kernel_rfl)) (fun _ _ _ h => h) (Or.inl ⟨by rfl, ?_⟩) ?_ ?_
    rotate_left
    ·intro w'
     go_simp
     with_reducible rfl
    rotate_left
    ·simp only [Act.put, la_, lz_, ls_, i64_w, i32_w]
     rfl
    refine pure_ (i := 14) (N := some 37) (v := ?_) (a' := ?_) #[T_, T_, T_, T_, T_, T_, T_, T_, T_, T_, T_, T_, T_, T_, T_, T_, F_] rfl rfl (any_of HT_.out (by kernel_rfl)) (fun _ _ _ h => h) (Or.inl ⟨by rfl, ?_⟩) ?_ ?_
    rotate_left
    ·intro w'
     go_simp
     with_reducible rfl
    rotate_left
    ·simp only [Act.put, la_, lz_, ls_, i64_w, i32_w]
     rfl
    exact norm_ (by simp only [putAll, Act.put, la_, lz_, ls_]) (hCont (gb208) _ ⟨(by (with_reducible repeat (first | apply Kd.R_alloc | apply Kd.R_drewN | apply Kd.R_drew)); exact Kd.R_mono HO192.out (fun _ hk => hk.2)), (by (with_reducible repeat (first | apply Kd.R_alloc | apply Kd.R_drewN | apply Kd.R_drew)); exact Kd.R_mono HO200.out (fun _ hk => hk.2)), (u_ BK187.out), (u_ BK208.out), GW208.out, GE208.out, NB0_208.out, NB208_0.out, NB187_208.out, NB208_187.out, (by repeat (first | (with_reducible first | exact HI0.out | apply IsS82.alloc | apply IsS82.drewN | apply IsS82.drew | apply IsS82.set_1 | refine IsS82.far ?_ NB0_187.out _ | refine IsS82.far ?_ NB0_208.out _) | exact HI0.out)), (by repeat (first | (with_reducible first | exact HK.out | apply KeepBut.set_ | apply keep_drewN | apply keep_drew | apply keep_alloc | refine keep_far ?_ GW187.out _ | refine keep_far ?_ GW208.out _) | exact HK.out)), (by repeat (first | (with_reducible first | exact HB.out | apply na_ | apply nn_ | apply nw_ | refine bs_ ?_ (IsS82.ge HI0.out) | refine bs_ ?_ GE187.out | refine bs_ ?_ GE208.out) | exact HB.out))⟩)
   skip
   refine box_step ?hg (N := 7) ?hd (cs := #[.int .i64 0, .int .i64 0, .int .i64 0, .int .i64 0]) (t := 88) ?hr ?_; (case hd => rfl); (case hg => rfl); (case hr => first | (go_simp; done) | (go_simp; rfl))
   intro gb208 hg w92 hbox hb
   have n0_ := mk_ (Kd.R_below (Kd.ur_ HO192.out) hb)
   have n1_ := mk_ (Kd.R_below (Kd.ur_ HO200.out) hb)
   have n2_ := mk_ (IsS82.below (by repeat (first | (with_reducible first | exact HI0.out | apply IsS82.alloc | apply IsS82.drewN | apply IsS82.drew | apply IsS82.set_1 | refine IsS82.far ?_ NB0_187.out _) | exact HI0.out)) hb)
   have n3_ := mk_ (blk_below (u_ BK187.out) hb)
   have n4_ := mk_ (KeepBut.trans (by repeat (first | (with_reducible first | exact HK.out | apply KeepBut.set_ | apply keep_drewN | apply keep_drew | apply keep_alloc | refine keep_far ?_ GW187.out _) | exact HK.out)) (KeepBut.of_below hb g none) (.inl rfl))
   have n5_ := mk_ (below_step (by repeat (first | (with_reducible first | exact HB.out | apply na_ | apply nn_ | apply nw_ | refine bs_ ?_ (IsS82.ge HI0.out) | refine bs_ ?_ GE187.out) | exact HB.out)) hb)
   have n6_ := mk_ (hbox)
   have n7_ := mk_ ((by rw [hg]; exact (keep_size (w := w) (g := g) (row := none) (by repeat (first | (with_reducible first | exact HK.out | apply KeepBut.set_ | apply keep_drewN | apply keep_drew | apply keep_alloc | refine keep_far ?_ GW187.out _) | exact HK.out))) : w.heap.size ≤ gb208))
   have n8_ := mk_ ((Nat.le_trans HW0.out (by rw [hg]; exact (keep_size (w := w) (g := g) (row := none) (by repeat (first | (with_reducible first | exact HK.out | apply KeepBut.set_ | apply keep_drewN | apply keep_drew | apply keep_alloc | refine keep_far ?_ GW187.out _) | exact HK.out))) : w.heap.size ≤ gb208) : w0.heap.size ≤ gb208))
   have n9_ := mk_ ((by rw [hg]; exact Nat.ne_of_lt (blk_lt (u_ BK187.out)) : gb187 ≠ gb208))
   have n10_ := mk_ ((by rw [hg]; exact Nat.ne_of_gt (blk_lt (u_ BK187.out)) : gb208 ≠ gb187))
   have n11_ := mk_ ((by rw [hg]; exact Nat.ne_of_lt (IsS82.lt (show IsS82 w0 _ g s0_0 t202 from by repeat (first | (with_reducible first | exact HI0.out | apply IsS82.alloc | apply IsS82.drewN | apply IsS82.drew | apply IsS82.set_1 | refine IsS82.far ?_ NB0_187.out _) | exact HI0.out))) : g ≠ gb208))
   have n12_ := mk_ ((by rw [hg]; exact Nat.ne_of_gt (IsS82.lt (show IsS82 w0 _ g s0_0 t202 from by repeat (first | (with_reducible first | exact HI0.out | apply IsS82.alloc | apply IsS82.drewN | apply IsS82.drew | apply IsS82.set_1 | refine IsS82.far ?_ NB0_187.out _) | exact HI0.out))) : gb208 ≠ g))
   clear HO192
   clear HO200
   clear HI0
   clear BK187
   clear HK
   clear HB
   have HO192 := n0_
   have HO200 := n1_
   have HI0 := n2_
   have BK187 := n3_
   have HK := n4_
   have HB := n5_
   have BK208 := n6_
   have GW208 := n7_
   have GE208 := ge_ n8_.out
   have NB187_208 := nq_ n9_.out
   have NB208_187 := nq_ n10_.out
   have NB0_208 := nq_ n11_.out
   have NB208_0 := nq_ n12_.out
   clear n0_ n1_ n2_ n3_ n4_ n5_ n6_ n7_ n8_ n9_ n10_ n11_ n12_
   clear hb hbox hg
   refine hK.out _ _ trivial (fun hHeld => ?_)
   clear hK K
   refine norm_ (a' := ?_) ?_ ?_
   rotate_left
   ·show Act.put _ (some 7) _ = _
    simp only [Act.put, la_, lz_, ls_, i64_w, i32_w]
    rfl
   refine one_ (i := 9) (N := some 32) #[T_, T_, T_, T_, T_, T_, T_, T_, T_, T_, T_, F_, F_, F_, F_, T_, F_] rfl rfl (one_of HT_.out (by kernel_rfl)) (by decide) (fun K hK => ?_)
   refine goes_ Try.func46 (by kernel_rfl) rfl #[.pointer (some ⟨g, 0, none⟩), .int .i64 3] (by rfl) rfl rfl (by (try simp only [lm_, lo_, ln_]); first | done | rfl | (simp only [List.length_drop, List.length_take]; rfl)) ?_
   with_reducible refine (spec_l20Rd_pick.calls k g s0_0 t202 3 t204 t205 w0 _ ?side1 ?side2 A15.out).mono ?_
   (case side1 => repeat (first | (with_reducible first | exact HI0.out | apply IsS82.alloc | apply IsS82.drewN | apply IsS82.drew | apply IsS82.set_1 | refine IsS82.far ?_ NB0_187.out _ | refine IsS82.far ?_ NB0_208.out _) | exact HI0.out))
   (case side2 => repeat (first | (with_reducible first | exact HB.out | apply na_ | apply nn_ | apply nw_ | refine bs_ ?_ (IsS82.ge HI0.out) | refine bs_ ?_ GE187.out | refine bs_ ?_ GE208.out) | exact HB.out))
   rintro e w93 ⟨rfl, hi, hb, hk⟩
   refine ⟨_, rfl, ?_⟩
   have n0_ := mk_ (KeepBut.blk hk (g' := gb187) (o := .cells #[.int .i64 0, .int .i64 0, .int .i64 0, .int .i64 0] 88 (0, 0)) (u_ BK187.out) NB187_0.out (by simp))
   have n1_ := mk_ (Kd.R_mono (Kd.R_keep (IsS82.apart (show IsS82 w0 _ g s0_0 t202 from by repeat (first | (with_reducible first | exact HI0.out | apply IsS82.alloc | apply IsS82.drewN | apply IsS82.drew | apply IsS82.set_1 | refine IsS82.far ?_ NB0_187.out _ | refine IsS82.far ?_ NB0_208.out _) | exact HI0.out)) (Kd.ur_ HO192.out) (by decide)) hk (fun _ h => h.2)) (fun _ h => h.1))
   have n2_ := mk_ (Kd.R_mono (Kd.R_keep (IsS82.apart (show IsS82 w0 _ g s0_0 t202 from by repeat (first | (with_reducible first | exact HI0.out | apply IsS82.alloc | apply IsS82.drewN | apply IsS82.drew | apply IsS82.set_1 | refine IsS82.far ?_ NB0_187.out _ | refine IsS82.far ?_ NB0_208.out _) | exact HI0.out)) (Kd.ur_ HO200.out) (by decide)) hk (fun _ h => h.2)) (fun _ h => h.1))
   have n3_ := mk_ (KeepBut.blk hk (g' := gb208) (o := .cells #[.int .i64 0, .int .i64 0, .int .i64 0, .int .i64 0] 88 (0, 0)) (u_ BK208.out) NB208_0.out (by simp))
   have n4_ := mk_ (KeepBut.trans (by repeat (first | (with_reducible first | exact HK.out | apply KeepBut.set_ | apply keep_drewN | apply keep_drew | apply keep_alloc | refine keep_far ?_ GW187.out _ | refine keep_far ?_ GW208.out _) | exact HK.out)) hk (.inl rfl))
   have n5_ := mk_ (hb)
   have n6_ := mk_ (hi)
   clear BK187
   clear HO192
   clear HO200
   clear BK208
   clear HK
   clear HB
   clear HI0
   have BK187 := n0_
   have HO192 := n1_
   have HO200 := n2_
   have BK208 := n3_
   have HK := n4_
   have HB := n5_
   have HI0 := n6_
   clear n0_ n1_ n2_ n3_ n4_ n5_ n6_
   (try clear hb)
   (try clear hb2)
   (try clear hk)
   (try clear hi)
   refine hK.out _ _ trivial (fun hHeld => ?_)
   clear hK K
   refine norm_ (a' := ?_) ?_ ?_
   rotate_left
   ·show Act.put _ (some 32) _ = _
    simp only [Act.put, la_, lz_, ls_, i64_w, i32_w]
    rfl
   refine one_ (i := 11) (N := some 34) #[T_, T_, T_, T_, T_, T_, T_, T_, T_, T_, T_, T_, F_, F_, F_, T_, F_] rfl rfl (one_of HT_.out (by kernel_rfl)) (by decide) (fun K hK => ?_)
   refine goes_ Try.func46 (by kernel_rfl) rfl #[.pointer (some ⟨g, 0, none⟩), .int .i64 3] (by rfl) rfl rfl (by (try simp only [lm_, lo_, ln_]); first | done | rfl | (simp only [List.length_drop, List.length_take]; rfl)) ?_
   with_reducible refine (spec_l20Rd_pick.calls k g s0_0 t205 3 t206 t207 w0 _ ?side1 ?side2 A16.out).mono ?_
   (case side1 => repeat (first | (with_reducible first | exact HI0.out | apply IsS82.alloc | apply IsS82.drewN | apply IsS82.drew | apply IsS82.set_1 | refine IsS82.far ?_ NB0_187.out _ | refine IsS82.far ?_ NB0_208.out _) | exact HI0.out))
   (case side2 => repeat (first | (with_reducible first | exact HB.out | apply na_ | apply nn_ | apply nw_ | refine bs_ ?_ (IsS82.ge HI0.out) | refine bs_ ?_ GE187.out | refine bs_ ?_ GE208.out) | exact HB.out))
   rintro e w94 ⟨rfl, hi, hb, hk⟩
   refine ⟨_, rfl, ?_⟩
   have n0_ := mk_ (KeepBut.blk hk (g' := gb187) (o := .cells #[.int .i64 0, .int .i64 0, .int .i64 0, .int .i64 0] 88 (0, 0)) (u_ BK187.out) NB187_0.out (by simp))
   have n1_ := mk_ (Kd.R_mono (Kd.R_keep (IsS82.apart (show IsS82 w0 _ g s0_0 t205 from by repeat (first | (with_reducible first | exact HI0.out | apply IsS82.alloc | apply IsS82.drewN | apply IsS82.drew | apply IsS82.set_1 | refine IsS82.far ?_ NB0_187.out _ | refine IsS82.far ?_ NB0_208.out _) | exact HI0.out)) (Kd.ur_ HO192.out) (by decide)) hk (fun _ h => h.2)) (fun _ h => h.1))
   have n2_ := mk_ (Kd.R_mono (Kd.R_keep (IsS82.apart (show IsS82 w0 _ g s0_0 t205 from by repeat (first | (with_reducible first | exact HI0.out | apply IsS82.alloc | apply IsS82.drewN | apply IsS82.drew | apply IsS82.set_1 | refine IsS82.far ?_ NB0_187.out _ | refine IsS82.far ?_ NB0_208.out _) | exact HI0.out)) (Kd.ur_ HO200.out) (by decide)) hk (fun _ h => h.2)) (fun _ h => h.1))
   have n3_ := mk_ (KeepBut.blk hk (g' := gb208) (o := .cells #[.int .i64 0, .int .i64 0, .int .i64 0, .int .i64 0] 88 (0, 0)) (u_ BK208.out) NB208_0.out (by simp))
   have n4_ := mk_ (KeepBut.trans (by repeat (first | (with_reducible first | exact HK.out | apply KeepBut.set_ | apply keep_drewN | apply keep_drew | apply keep_alloc | refine keep_far ?_ GW187.out _ | refine keep_far ?_ GW208.out _) | exact HK.out)) hk (.inl rfl))
   have n5_ := mk_ (hb)
   have n6_ := mk_ (hi)
   clear BK187
   clear HO192
   clear HO200
   clear BK208
   clear HK
   clear HB
   clear HI0
   have BK187 := n0_
   have HO192 := n1_
   have HO200 := n2_
   have BK208 := n3_
   have HK := n4_
   have HB := n5_
   have HI0 := n6_
   clear n0_ n1_ n2_ n3_ n4_ n5_ n6_
   (try clear hb)
   (try clear hb2)
   (try clear hk)
   (try clear hi)
   refine hK.out _ _ trivial (fun hHeld => ?_)
   clear hK K
   refine norm_ (a' := ?_) ?_ ?_
   rotate_left
   ·show Act.put _ (some 34) _ = _
    simp only [Act.put, la_, lz_, ls_, i64_w, i32_w]
    rfl
   refine pure_ (i := 12) (N := some 35) (v := ?_) (a' := ?_) #[T_, T_, T_, T_, T_, T_, T_, T_, T_, T_, T_, T_, T_, F_, F_, T_, F_] rfl rfl (any_of HT_.out (by kernel_rfl)) (fun _ _ _ h => h) (Or.inl ⟨by rfl, ?_⟩) ?_ ?_
   rotate_left
   ·intro w'
    go_simp
    with_reducible rfl
   rotate_left
   ·simp only [Act.put, la_, lz_, ls_, i64_w, i32_w]
    rfl
   refine pure_ (i := 13) (N := some 36) (v := ?_) (a' := ?_) #[T_, T_, T_, T_, T_, T_, T_, T_, T_, T_, T_, T_, T_, T_, F_, T_, F_] rfl rfl (any_of HT_.out (by kernel_rfl)) (fun _ _ _ h => h) (Or.inl ⟨by rfl, ?_⟩) ?_ ?_
   rotate_left
   ·intro w'
    go_simp
    with_reducible rfl
   rotate_left
   ·simp only [Act.put, la_, lz_, ls_, i64_w, i32_w]
    rfl
   refine pure_ (i := 14) (N := some 37) (v := ?_) (a' := ?_) #[T_, T_, T_, T_, T_, T_, T_, T_, T_, T_, T_, T_, T_, T_, T_, T_, F_] rfl rfl (any_of HT_.out (by kernel_rfl)) (fun _ _ _ h => h) (Or.inl ⟨by rfl, ?_⟩) ?_ ?_
   rotate_left
   ·intro w'
    go_simp
    with_reducible rfl
   rotate_left
   ·simp only [Act.put, la_, lz_, ls_, i64_w, i32_w]
    rfl
   exact norm_ (by simp only [putAll, Act.put, la_, lz_, ls_]) (hCont (gb208) _ ⟨(by (with_reducible repeat (first | apply Kd.R_alloc | apply Kd.R_drewN | apply Kd.R_drew)); exact Kd.R_mono HO192.out (fun _ hk => hk.2)), (by (with_reducible repeat (first | apply Kd.R_alloc | apply Kd.R_drewN | apply Kd.R_drew)); exact Kd.R_mono HO200.out (fun _ hk => hk.2)), (u_ BK187.out), (u_ BK208.out), GW208.out, GE208.out, NB0_208.out, NB208_0.out, NB187_208.out, NB208_187.out, (by repeat (first | (with_reducible first | exact HI0.out | apply IsS82.alloc | apply IsS82.drewN | apply IsS82.drew | apply IsS82.set_1 | refine IsS82.far ?_ NB0_187.out _ | refine IsS82.far ?_ NB0_208.out _) | exact HI0.out)), (by repeat (first | (with_reducible first | exact HK.out | apply KeepBut.set_ | apply keep_drewN | apply keep_drew | apply keep_alloc | refine keep_far ?_ GW187.out _ | refine keep_far ?_ GW208.out _) | exact HK.out)), (by repeat (first | (with_reducible first | exact HB.out | apply na_ | apply nn_ | apply nw_ | refine bs_ ?_ (IsS82.ge HI0.out) | refine bs_ ?_ GE187.out | refine bs_ ?_ GE208.out) | exact HB.out))⟩)
  rintro gb208 w95 ⟨h0_, h1_, h2_, h3_, h4_, h5_, h6_, h7_, h8_, h9_, h10_, h11_, h12_⟩
  have n0_ : Aside0 (Kd.R (Kd.int .i64) 3 w95 w.heap.size (fun k_ => some k_ ≠ (.slice (some ad203) y198.length co90 : Value).ownBlock) (.slice (some ad195) y190.length co85) y190) := ⟨h0_⟩
  have n1_ : Aside0 (Kd.R (Kd.int .i64) 3 w95 w.heap.size (fun k_ => some k_ ≠ (.slice (some ad195) y190.length co85 : Value).ownBlock) (.slice (some ad203) y198.length co90) y198) := ⟨h1_⟩
  have n2_ : Aside0 (w95.heap[gb187]? = some (.cells #[.int .i64 0, .int .i64 0, .int .i64 0, .int .i64 0] 88 (0, 0))) := ⟨h2_⟩
  have n3_ : Aside0 (w95.heap[gb208]? = some (.cells #[.int .i64 0, .int .i64 0, .int .i64 0, .int .i64 0] 88 (0, 0))) := ⟨h3_⟩
  have n4_ : Aside0 (w.heap.size ≤ gb208) := ⟨h4_⟩
  have n5_ : Aside0 (w0.heap.size ≤ gb208) := ⟨h5_⟩
  have n6_ : Aside0 (g ≠ gb208) := ⟨h6_⟩
  have n7_ : Aside0 (gb208 ≠ g) := ⟨h7_⟩
  have n8_ : Aside0 (gb187 ≠ gb208) := ⟨h8_⟩
  have n9_ : Aside0 (gb208 ≠ gb187) := ⟨h9_⟩
  have n10_ : Aside0 (IsS82 w0 w95 g s0_0 t207) := ⟨h10_⟩
  have n11_ : Aside0 (KeepBut w w95 g none) := ⟨h11_⟩
  have n12_ : Aside0 (Below w0.heap.size w0 w95) := ⟨h12_⟩
  clear HO192
  clear HO200
  clear BK187
  clear HI0
  clear HK
  clear HB
  clear h0_ h1_ h2_ h3_ h4_ h5_ h6_ h7_ h8_ h9_ h10_ h11_ h12_
  have HO192 := n0_
  have HO200 := n1_
  have BK187 := n2_
  have BK208 := n3_
  have GW208 := n4_
  have GE208 := ge_ n5_.out
  have NB0_208 := nq_ n6_.out
  have NB208_0 := nq_ n7_.out
  have NB187_208 := nq_ n8_.out
  have NB208_187 := nq_ n9_.out
  have HI0 := n10_
  have HK := n11_
  have HB := n12_
  clear n0_ n1_ n2_ n3_ n4_ n5_ n6_ n7_ n8_ n9_ n10_ n11_ n12_
  have hHeld := trivial
  refine norm_ (a' := ?_) ?_ ?_
  rotate_left
  ·simp only [putAll, Act.put, la_, lz_, ls_]
   rfl
  refine one_ (i := 16) (N := none) #[T_, T_, T_, T_, T_, T_, T_, T_, T_, T_, T_, T_, T_, T_, T_, T_, T_] rfl rfl (one_of HT_.out (by kernel_rfl)) (by decide) (fun K hK => ?_)
  have hs96 : w95.cell? ⟨gb208, 0, none⟩ = some (.int .i64 0) := (blk_cell BK208.out 0).trans rfl
  have hfs96 := blk_frozen BK208.out 0
  have hns96_0 := NB187_208.out
  have hms96_0 := NB208_187.out
  have hs97 : w95.cell? ⟨gb208, 1, none⟩ = some (.int .i64 0) := (blk_cell BK208.out 1).trans rfl
  have hfs97 := blk_frozen BK208.out 1
  have hns97_0 := NB187_208.out
  have hms97_0 := NB208_187.out
  have hs98 : w95.cell? ⟨gb208, 2, none⟩ = some (.int .i64 0) := (blk_cell BK208.out 2).trans rfl
  have hfs98 := blk_frozen BK208.out 2
  have hns98_0 := NB187_208.out
  have hms98_0 := NB208_187.out
  have hs99 : w95.cell? ⟨gb208, 3, none⟩ = some (.int .i64 0) := (blk_cell BK208.out 3).trans rfl
  have hfs99 := blk_frozen BK208.out 3
  have hns99_0 := NB187_208.out
  have hms99_0 := NB208_187.out
  refine skip_ (w1 := ?_) (by rfl) rfl ?_ ?_
  rotate_left
  ·go_simp
   rfl
  refine hK.out _ _ trivial (fun hHeld => ?_)
  clear hK K
  refine done_ (done_of HT_.out (by kernel_rfl)) ?_
  try go_wp2_with (first | ((with_reducible refine gate_callee (f := 65) rfl ?_); refine goesL_ (some 40) rfl rfl Try.func65 (by kernel_rfl) rfl #[.pointer (some ⟨g, 0, none⟩), .int .i64 a1] rfl (by (try simp only [lm_, lo_, ln_]); first | done | rfl | (simp only [List.length_drop, List.length_take]; rfl)) ?_; (with_reducible refine (spec_l20Rd_odd.calls k g s0_0 t207 a1 true t210 w0 _ ?side1 ?side2 A17.out).mono ?_); (case side1 => repeat (first | (with_reducible first | exact HI0.out | apply IsS82.alloc | apply IsS82.drewN | apply IsS82.drew | apply IsS82.set_1 | refine IsS82.far ?_ NB0_187.out _ | refine IsS82.far ?_ NB0_208.out _) | exact HI0.out)); (case side2 => repeat (first | (with_reducible first | exact HB.out | apply na_ | apply nn_ | apply nw_ | refine bs_ ?_ (IsS82.ge HI0.out) | refine bs_ ?_ GE187.out | refine bs_ ?_ GE208.out) | exact HB.out)); rintro e w100 ⟨rfl, hi, hb, hk⟩; refine ⟨_, rfl, ?_⟩; have n0_ := mk_ (KeepBut.blk hk (g' := gb187) (o := .cells #[.int .i64 0, .int .i64 0, .int .i64 0, .int .i64 0] 88 (0, 0)) (uf_ BK187.out) NB187_0.out (by simp)); have n1_ := mk_ (Kd.R_mono (Kd.R_keep (IsS82.apart (show IsS82 w0 _ g s0_0 t207 from by repeat (first | (with_reducible first | exact HI0.out | apply IsS82.alloc | apply IsS82.drewN | apply IsS82.drew | apply IsS82.set_1 | refine IsS82.far ?_ NB0_187.out _ | refine IsS82.far ?_ NB0_208.out _) | exact HI0.out)) (by (with_reducible repeat (first | apply Kd.R_alloc | apply Kd.R_drewN | apply Kd.R_drew)); exact (Kd.R_mono (Kd.R_far (p := ⟨gb208, 3, none⟩) (Kd.R_far (p := ⟨gb208, 2, none⟩) (Kd.R_far (p := ⟨gb208, 1, none⟩) (Kd.R_far (p := ⟨gb208, 0, none⟩) (Kd.R_types HO192.out BK208.out (by decide)) (fun _ hk => hk.2) (.int .i64 (wrap64 ((rd y198 t201) - (Int.tmod (rd y198 t201) (ji13)))))) (fun _ hk => hk.2) (.int .i64 (rd y190 t193))) (fun _ hk => hk.2) (.int .i64 t204)) (fun _ hk => hk.2) (.int .i64 (wrap64 (4 + (wrap64 (t206 * 6)))))) (fun _ h_ => by first | exact h_.1 | simp only [h_, ne_eq, not_false_eq_true, and_self]))) (by decide)) hk (fun _ h => h.2)) (fun _ h => h.1)); have n2_ := mk_ (Kd.R_mono (Kd.R_keep (IsS82.apart (show IsS82 w0 _ g s0_0 t207 from by repeat (first | (with_reducible first | exact HI0.out | apply IsS82.alloc | apply IsS82.drewN | apply IsS82.drew | apply IsS82.set_1 | refine IsS82.far ?_ NB0_187.out _ | refine IsS82.far ?_ NB0_208.out _) | exact HI0.out)) (by (with_reducible repeat (first | apply Kd.R_alloc | apply Kd.R_drewN | apply Kd.R_drew)); exact (Kd.R_mono (Kd.R_far (p := ⟨gb208, 3, none⟩) (Kd.R_far (p := ⟨gb208, 2, none⟩) (Kd.R_far (p := ⟨gb208, 1, none⟩) (Kd.R_far (p := ⟨gb208, 0, none⟩) (Kd.R_types HO200.out BK208.out (by decide)) (fun _ hk => hk.2) (.int .i64 (wrap64 ((rd y198 t201) - (Int.tmod (rd y198 t201) (ji13)))))) (fun _ hk => hk.2) (.int .i64 (rd y190 t193))) (fun _ hk => hk.2) (.int .i64 t204)) (fun _ hk => hk.2) (.int .i64 (wrap64 (4 + (wrap64 (t206 * 6)))))) (fun _ h_ => by first | exact h_.1 | simp only [h_, ne_eq, not_false_eq_true, and_self]))) (by decide)) hk (fun _ h => h.2)) (fun _ h => h.1)); have n3_ := mk_ (KeepBut.blk hk (g' := gb208) (o := .cells #[.int .i64 (wrap64 ((rd y198 t201) - (Int.tmod (rd y198 t201) (ji13)))), .int .i64 (rd y190 t193), .int .i64 t204, .int .i64 (wrap64 (4 + (wrap64 (t206 * 6))))] 88 (0, 0)) (by (with_reducible repeat (first | refine bn_ ?_ _ | refine bw_ ?_ | refine ba_ ?_ _)); refine blk_put (cs := #[.int .i64 (wrap64 ((rd y198 t201) - (Int.tmod (rd y198 t201) (ji13)))), .int .i64 (rd y190 t193), .int .i64 t204, .int .i64 0]) ?_ 3 _ rfl; (with_reducible repeat (first | refine bn_ ?_ _ | refine bw_ ?_ | refine ba_ ?_ _)); refine blk_put (cs := #[.int .i64 (wrap64 ((rd y198 t201) - (Int.tmod (rd y198 t201) (ji13)))), .int .i64 (rd y190 t193), .int .i64 0, .int .i64 0]) ?_ 2 _ rfl; (with_reducible repeat (first | refine bn_ ?_ _ | refine bw_ ?_ | refine ba_ ?_ _)); refine blk_put (cs := #[.int .i64 (wrap64 ((rd y198 t201) - (Int.tmod (rd y198 t201) (ji13)))), .int .i64 0, .int .i64 0, .int .i64 0]) ?_ 1 _ rfl; (with_reducible repeat (first | refine bn_ ?_ _ | refine bw_ ?_ | refine ba_ ?_ _)); refine blk_put (cs := #[.int .i64 0, .int .i64 0, .int .i64 0, .int .i64 0]) ?_ 0 _ rfl; (with_reducible repeat (first | refine bn_ ?_ _ | refine bw_ ?_ | refine ba_ ?_ _)); exact BK208.out) NB208_0.out (by simp)); have n4_ := mk_ (KeepBut.trans (by repeat (first | (with_reducible first | exact HK.out | apply KeepBut.set_ | apply keep_drewN | apply keep_drew | apply keep_alloc | refine keep_far ?_ GW187.out _ | refine keep_far ?_ GW208.out _) | exact HK.out)) hk (.inl rfl)); have n5_ := mk_ (hb); have n6_ := mk_ (hi); clear BK187; clear HO192; clear HO200; clear BK208; clear HK; clear HB; clear HI0; have BK187 := n0_; have HO192 := n1_; have HO200 := n2_; have BK208 := n3_; have HK := n4_; have HB := n5_; have HI0 := n6_; clear n0_ n1_ n2_ n3_ n4_ n5_ n6_; (try clear hb); (try clear hb2); (try clear hk); (try clear hi)) | ((with_reducible refine gate_callee (f := 46) rfl ?_); refine goesL_ (some 42) rfl rfl Try.func46 (by kernel_rfl) rfl #[.pointer (some ⟨g, 0, none⟩), .int .i64 3] rfl (by (try simp only [lm_, lo_, ln_]); first | done | rfl | (simp only [List.length_drop, List.length_take]; rfl)) ?_; (with_reducible refine (spec_l20Rd_pick.calls k g s0_0 t210 3 t211 t212 w0 _ ?side1 ?side2 A19.out).mono ?_); (case side1 => repeat (first | (with_reducible first | exact HI0.out | apply IsS82.alloc | apply IsS82.drewN | apply IsS82.drew | apply IsS82.set_1 | refine IsS82.far ?_ NB0_187.out _ | refine IsS82.far ?_ NB0_208.out _) | exact HI0.out)); (case side2 => repeat (first | (with_reducible first | exact HB.out | apply na_ | apply nn_ | apply nw_ | refine bs_ ?_ (IsS82.ge HI0.out) | refine bs_ ?_ GE187.out | refine bs_ ?_ GE208.out) | exact HB.out)); rintro e w101 ⟨rfl, hi, hb, hk⟩; refine ⟨_, rfl, ?_⟩; have n0_ := mk_ (KeepBut.blk hk (g' := gb187) (o := .cells #[.int .i64 0, .int .i64 0, .int .i64 0, .int .i64 0] 88 (0, 0)) (u_ BK187.out) NB187_0.out (by simp)); have n1_ := mk_ (Kd.R_mono (Kd.R_keep (IsS82.apart (show IsS82 w0 _ g s0_0 t210 from by repeat (first | (with_reducible first | exact HI0.out | apply IsS82.alloc | apply IsS82.drewN | apply IsS82.drew | apply IsS82.set_1 | refine IsS82.far ?_ NB0_187.out _ | refine IsS82.far ?_ NB0_208.out _) | exact HI0.out)) (Kd.ur_ HO192.out) (by decide)) hk (fun _ h => h.2)) (fun _ h => h.1)); have n2_ := mk_ (Kd.R_mono (Kd.R_keep (IsS82.apart (show IsS82 w0 _ g s0_0 t210 from by repeat (first | (with_reducible first | exact HI0.out | apply IsS82.alloc | apply IsS82.drewN | apply IsS82.drew | apply IsS82.set_1 | refine IsS82.far ?_ NB0_187.out _ | refine IsS82.far ?_ NB0_208.out _) | exact HI0.out)) (Kd.ur_ HO200.out) (by decide)) hk (fun _ h => h.2)) (fun _ h => h.1)); have n3_ := mk_ (KeepBut.blk hk (g' := gb208) (o := .cells #[.int .i64 (wrap64 ((rd y198 t201) - (Int.tmod (rd y198 t201) (ji13)))), .int .i64 (rd y190 t193), .int .i64 t204, .int .i64 (wrap64 (4 + (wrap64 (t206 * 6))))] 88 (0, 0)) (u_ BK208.out) NB208_0.out (by simp)); have n4_ := mk_ (KeepBut.trans (by repeat (first | (with_reducible first | exact HK.out | apply KeepBut.set_ | apply keep_drewN | apply keep_drew | apply keep_alloc | refine keep_far ?_ GW187.out _ | refine keep_far ?_ GW208.out _) | exact HK.out)) hk (.inl rfl)); have n5_ := mk_ (hb); have n6_ := mk_ (hi); clear BK187; clear HO192; clear HO200; clear BK208; clear HK; clear HB; clear HI0; have BK187 := n0_; have HO192 := n1_; have HO200 := n2_; have BK208 := n3_; have HK := n4_; have HB := n5_; have HI0 := n6_; clear n0_ n1_ n2_ n3_ n4_ n5_ n6_; (try clear hb); (try clear hb2); (try clear hk); (try clear hi); have hnb102 := NB208_187.out; have hnc102 := NB187_208.out; have hnb103 := NB208_0.out; have hnc103 := NB0_208.out; obtain ⟨hcz104_0, hcz104_1, hcz104_2, hcz104_3, hfz104_0, hfz104_1, hfz104_2, hfz104_3⟩ := cells4_ BK208.out; have hnb105 := NB187_0.out; have hnc105 := NB0_187.out; obtain ⟨hcz106_0, hcz106_1, hcz106_2, hcz106_3, hfz106_0, hfz106_1, hfz106_2, hfz106_3⟩ := cells4_ BK187.out))
  refine bodyPost_ret (results_cell_row rfl _ _ gb187 88 #[.int .i64 (wrap64 ((wrap64 ((rd y198 t201) - (Int.tmod (rd y198 t201) (ji13)))) + 1)), .int .i64 (rd y190 t193), .int .i64 t204, .int .i64 (wrap64 (4 + (wrap64 (t206 * 6))))] (0, 0) _ rfl (by (with_reducible repeat (first | refine bn_ ?_ _ | refine bw_ ?_ | refine ba_ ?_ _)); refine blk_put (cs := #[.int .i64 (wrap64 ((wrap64 ((rd y198 t201) - (Int.tmod (rd y198 t201) (ji13)))) + 1)), .int .i64 (rd y190 t193), .int .i64 t204, .int .i64 0]) ?_ 3 _ rfl; (with_reducible repeat (first | refine bn_ ?_ _ | refine bw_ ?_ | refine ba_ ?_ _)); refine blk_put (cs := #[.int .i64 (wrap64 ((wrap64 ((rd y198 t201) - (Int.tmod (rd y198 t201) (ji13)))) + 1)), .int .i64 (rd y190 t193), .int .i64 0, .int .i64 0]) ?_ 2 _ rfl; (with_reducible repeat (first | refine bn_ ?_ _ | refine bw_ ?_ | refine ba_ ?_ _)); refine blk_put (cs := #[.int .i64 (wrap64 ((wrap64 ((rd y198 t201) - (Int.tmod (rd y198 t201) (ji13)))) + 1)), .int .i64 0, .int .i64 0, .int .i64 0]) ?_ 1 _ rfl; (with_reducible repeat (first | refine bn_ ?_ _ | refine bw_ ?_ | refine ba_ ?_ _)); refine blk_put (cs := #[.int .i64 0, .int .i64 0, .int .i64 0, .int .i64 0]) ?_ 0 _ rfl; (with_reducible repeat (first | refine bn_ ?_ _ | refine bw_ ?_ | refine ba_ ?_ _)); refine blk_far ?_ NB187_208.out _; (with_reducible repeat (first | refine bn_ ?_ _ | refine bw_ ?_ | refine ba_ ?_ _)); exact BK187.out) Try.underlying88 rfl (by kernel_rfl)) rfl ?_
  exact ⟨by first | rfl | (simp [errW_none, errW_some] <;> rfl) | (simp only [← hji11, ← hji13]; first | rfl | (simp [errW_none, errW_some] <;> rfl)) | (simp [*, errW_none, errW_some] <;> rfl), by repeat (first | (with_reducible first | exact HI0.out | apply IsS82.alloc | apply IsS82.drewN | apply IsS82.drew | apply IsS82.set_1 | refine IsS82.far ?_ NB0_187.out _ | refine IsS82.far ?_ NB0_208.out _) | exact HI0.out), by repeat (first | (with_reducible first | exact HB.out | apply na_ | apply nn_ | apply nw_ | refine bs_ ?_ (IsS82.ge HI0.out) | refine bs_ ?_ GE187.out | refine bs_ ?_ GE208.out) | exact HB.out), by repeat (first | (with_reducible first | exact HK.out | apply KeepBut.set_ | apply keep_drewN | apply keep_drew | apply keep_alloc | refine keep_far ?_ GW187.out _ | refine keep_far ?_ GW208.out _) | exact HK.out)⟩
 rw [if_pos c50] at H
 have c50b0 : (t211 == 1) = true := beq_iff_eq.mpr c50
 have c50b1 : (t211 != 1) = false := bne_eq_false_iff_eq.mpr c50
 clear c50
 replace H := Option.bind_eq_some_iff.mp H
 obtain ⟨⟨t215, t216⟩, A510, H⟩ := H
 replace H : (some (wrap64 ((rd y198 t201) - (Int.tmod (rd y198 t201) (ji13))), rd y190 t193, t204, wrap64 (t215 * 49), t216)) = some (r1, r2, r3, r4, r5) := H
 have A51 := mk_ A510
 clear A510
 simp only [Option.some.injEq, Prod.mk.injEq] at H
 obtain ⟨rfl, rfl, rfl, rfl, rfl⟩ := H
 go_enter Try.func68, Try.ntmps68
 try go_wp2_with (first | ((with_reducible refine gate_dst (N := 4) rfl ?_); refine box_event ?hg (N := 4) ?hd (cs := #[.int .i64 0, .int .i64 0, .int .i64 0, .int .i64 0]) (t := 88) ?hr ?_; (case hd => rfl); (case hg => rfl); (case hr => first | (go_simp; done) | (go_simp; rfl)); intro gb187 hg w52 hbox hb; have n0_ := mk_ (IsS82.below (by repeat (first | (with_reducible first | exact HI0.out | apply IsS82.alloc | apply IsS82.drewN | apply IsS82.drew | apply IsS82.set_1) | exact HI0.out)) hb); have n1_ := mk_ (KeepBut.trans (by repeat (first | (with_reducible first | exact HK.out | apply KeepBut.set_ | apply keep_drewN | apply keep_drew | apply keep_alloc) | exact HK.out)) (KeepBut.of_below hb g none) (.inl rfl)); have n2_ := mk_ (below_step (by repeat (first | (with_reducible first | exact HB.out | apply na_ | apply nn_ | apply nw_ | refine bs_ ?_ (IsS82.ge HI0.out)) | exact HB.out)) hb); have n3_ := mk_ (hbox); have n4_ := mk_ ((by rw [hg]; exact (keep_size (w := w) (g := g) (row := none) (by repeat (first | (with_reducible first | exact HK.out | apply KeepBut.set_ | apply keep_drewN | apply keep_drew | apply keep_alloc) | exact HK.out))) : w.heap.size ≤ gb187)); have n5_ := mk_ ((Nat.le_trans HW0.out (by rw [hg]; exact (keep_size (w := w) (g := g) (row := none) (by repeat (first | (with_reducible first | exact HK.out | apply KeepBut.set_ | apply keep_drewN | apply keep_drew | apply keep_alloc) | exact HK.out))) : w.heap.size ≤ gb187) : w0.heap.size ≤ gb187)); have n6_ := mk_ ((by rw [hg]; exact Nat.ne_of_lt (IsS82.lt (show IsS82 w0 _ g s0_0 s0_1 from by repeat (first | (with_reducible first | exact HI0.out | apply IsS82.alloc | apply IsS82.drewN | apply IsS82.drew | apply IsS82.set_1) | exact HI0.out))) : g ≠ gb187)); have n7_ := mk_ ((by rw [hg]; exact Nat.ne_of_gt (IsS82.lt (show IsS82 w0 _ g s0_0 s0_1 from by repeat (first | (with_reducible first | exact HI0.out | apply IsS82.alloc | apply IsS82.drewN | apply IsS82.drew | apply IsS82.set_1) | exact HI0.out))) : gb187 ≠ g)); clear HI0; clear HK; clear HB; have HI0 := n0_; have HK := n1_; have HB := n2_; have BK187 := n3_; have GW187 := n4_; have GE187 := ge_ n5_.out; have NB0_187 := nq_ n6_.out; have NB187_0 := nq_ n7_.out; clear n0_ n1_ n2_ n3_ n4_ n5_ n6_ n7_; clear hb hbox hg) | ((with_reducible refine gate_callee (f := 46) rfl ?_); have hA_ := A3.out; refine goesL_ (some 9) rfl rfl Try.func46 (by kernel_rfl) rfl #[.pointer (some ⟨g, 0, none⟩), .int .i64 17] rfl (by (try simp only [lm_, lo_, ln_]); first | done | rfl | (simp only [List.length_drop, List.length_take]; rfl)) ?_; (with_reducible refine (spec_l20Rd_pick.calls k g s0_0 s0_1 17 t188 t189 w0 _ ?side1 ?side2 A3.out).mono ?_); (case side1 => repeat (first | (with_reducible first | exact HI0.out | apply IsS82.alloc | apply IsS82.drewN | apply IsS82.drew | apply IsS82.set_1 | refine IsS82.far ?_ NB0_187.out _) | exact HI0.out)); (case side2 => repeat (first | (with_reducible first | exact HB.out | apply na_ | apply nn_ | apply nw_ | refine bs_ ?_ (IsS82.ge HI0.out) | refine bs_ ?_ GE187.out) | exact HB.out)); rintro e w53 ⟨rfl, hi, hb, hk⟩; refine ⟨_, rfl, ?_⟩; have n0_ := mk_ (KeepBut.blk hk (g' := gb187) (o := .cells #[.int .i64 0, .int .i64 0, .int .i64 0, .int .i64 0] 88 (0, 0)) (u_ BK187.out) NB187_0.out (by simp)); have n1_ := mk_ (KeepBut.trans (by repeat (first | (with_reducible first | exact HK.out | apply KeepBut.set_ | apply keep_drewN | apply keep_drew | apply keep_alloc | refine keep_far ?_ GW187.out _) | exact HK.out)) hk (.inl rfl)); have n2_ := mk_ (hb); have n3_ := mk_ (hi); clear BK187; clear HK; clear HB; clear HI0; have BK187 := n0_; have HK := n1_; have HB := n2_; have HI0 := n3_; clear n0_ n1_ n2_ n3_; (try clear hb); (try clear hb2); (try clear hk); (try clear hi); clear hA_ A3) | ((with_reducible refine gate_dst (N := 10) rfl ?_); refine Kd.R_lit (Kd.int .i64) _ 3 ?hg (N := 10) ?hd (xs := ([0, 4, 8, 8, 12, 16, t188] : List Int)) (inner := [.int .i64 0, .int .i64 4, .int .i64 8, .int .i64 8, .int .i64 12, .int .i64 16, .int .i64 t188]) (ok := fun _ => True) (okp := fun _ => True) ?hr ?hp (fun _ hk => hk) trivial (Below.refl _ _) (Nat.le_refl _) (by simp) ?_; (case hd => rfl); (case hg => rfl); (case hr => first | (go_simp; done) | (go_simp; rfl)); (case hp => exact (Reps.one (show Kd.M (Kd.int .i64) _ _ _ 0 [.int .i64 0] from rfl) (Reps.one (show Kd.M (Kd.int .i64) _ _ _ 4 [.int .i64 4] from rfl) (Reps.one (show Kd.M (Kd.int .i64) _ _ _ 8 [.int .i64 8] from rfl) (Reps.one (show Kd.M (Kd.int .i64) _ _ _ 8 [.int .i64 8] from rfl) (Reps.one (show Kd.M (Kd.int .i64) _ _ _ 12 [.int .i64 12] from rfl) (Reps.one (show Kd.M (Kd.int .i64) _ _ _ 16 [.int .i64 16] from rfl) (Reps.one (show Kd.M (Kd.int .i64) _ _ _ t188 [.int .i64 t188] from rfl) (Reps.none _ _))))))))); intro v191 w54 ho55 hb hg_ hnew_; clear hg_ hnew_; (first | rw [← Ny190.out] at ho55 | (simp only [Int.reduceToNat] at ho55; rw [← Ny190.out] at ho55)); have n0_ := mk_ (Kd.R_lower ho55 (keep_size (w := w) (g := g) (row := none) (by repeat (first | (with_reducible first | exact HK.out | apply KeepBut.set_ | apply keep_drewN | apply keep_drew | apply keep_alloc | refine keep_far ?_ GW187.out _) | exact HK.out)))); have n1_ := mk_ (IsS82.below (by repeat (first | (with_reducible first | exact HI0.out | apply IsS82.alloc | apply IsS82.drewN | apply IsS82.drew | apply IsS82.set_1 | refine IsS82.far ?_ NB0_187.out _) | exact HI0.out)) hb); have n2_ := mk_ (blk_below (u_ BK187.out) hb); have n3_ := mk_ (KeepBut.trans (by repeat (first | (with_reducible first | exact HK.out | apply KeepBut.set_ | apply keep_drewN | apply keep_drew | apply keep_alloc | refine keep_far ?_ GW187.out _) | exact HK.out)) (KeepBut.of_below hb g none) (.inl rfl)); have n4_ := mk_ (below_step (by repeat (first | (with_reducible first | exact HB.out | apply na_ | apply nn_ | apply nw_ | refine bs_ ?_ (IsS82.ge HI0.out) | refine bs_ ?_ GE187.out) | exact HB.out)) hb); clear HI0; clear BK187; clear HK; clear HB; have HO192 := n0_; have HI0 := n1_; have BK187 := n2_; have HK := n3_; have HB := n4_; clear n0_ n1_ n2_ n3_ n4_; clear hb ho55) | ((with_reducible refine gate_callee (f := 46) rfl ?_); have hA_ := A4.out; refine goesL_ (some 12) rfl rfl Try.func46 (by kernel_rfl) rfl #[.pointer (some ⟨g, 0, none⟩), .int .i64 7] rfl (by (try simp only [lm_, lo_, ln_]); first | done | rfl | (simp only [List.length_drop, List.length_take]; rfl)) ?_; (with_reducible refine (spec_l20Rd_pick.calls k g s0_0 t189 7 t193 t194 w0 _ ?side1 ?side2 A4.out).mono ?_); (case side1 => repeat (first | (with_reducible first | exact HI0.out | apply IsS82.alloc | apply IsS82.drewN | apply IsS82.drew | apply IsS82.set_1 | refine IsS82.far ?_ NB0_187.out _) | exact HI0.out)); (case side2 => repeat (first | (with_reducible first | exact HB.out | apply na_ | apply nn_ | apply nw_ | refine bs_ ?_ (IsS82.ge HI0.out) | refine bs_ ?_ GE187.out) | exact HB.out)); rintro e w56 ⟨rfl, hi, hb, hk⟩; refine ⟨_, rfl, ?_⟩; have n0_ := mk_ (KeepBut.blk hk (g' := gb187) (o := .cells #[.int .i64 0, .int .i64 0, .int .i64 0, .int .i64 0] 88 (0, 0)) (u_ BK187.out) NB187_0.out (by simp)); have n1_ := mk_ (Kd.R_mono (Kd.R_keep (IsS82.apart (show IsS82 w0 _ g s0_0 t189 from by repeat (first | (with_reducible first | exact HI0.out | apply IsS82.alloc | apply IsS82.drewN | apply IsS82.drew | apply IsS82.set_1 | refine IsS82.far ?_ NB0_187.out _) | exact HI0.out)) (Kd.ur_ HO192.out) (by decide)) hk (fun _ h => h.2)) (fun _ h => h.1)); have n2_ := mk_ (KeepBut.trans (by repeat (first | (with_reducible first | exact HK.out | apply KeepBut.set_ | apply keep_drewN | apply keep_drew | apply keep_alloc | refine keep_far ?_ GW187.out _) | exact HK.out)) hk (.inl rfl)); have n3_ := mk_ (hb); have n4_ := mk_ (hi); clear BK187; clear HO192; clear HK; clear HB; clear HI0; have BK187 := n0_; have HO192 := n1_; have HK := n2_; have HB := n3_; have HI0 := n4_; clear n0_ n1_ n2_ n3_ n4_; (try clear hb); (try clear hb2); (try clear hk); (try clear hi); obtain ⟨Ao57, co57, eo57⟩ := Kd.R_slice HO192.out; subst eo57; have p195 : 0 ≤ (t193 : Int) := of_decide_eq_true (by first | (with_reducible assumption) | assumption); have q195 : t193 < (y190.length : Int) := of_decide_eq_true (by first | (with_reducible assumption) | assumption); obtain ⟨ad195, e195, hx195_0⟩ := Kd.at_int (Kd.R_reads' HO192.out).2.2 t193 p195 q195; cases e195; replace p195 := eq_true p195; replace q195 := eq_true q195; clear hA_ A4) | ((with_reducible refine gate_callee (f := 46) rfl ?_); have hA_ := A7.out; refine goesL_ (some 16) rfl rfl Try.func46 (by kernel_rfl) rfl #[.pointer (some ⟨g, 0, none⟩), .int .i64 512] rfl (by (try simp only [lm_, lo_, ln_]); first | done | rfl | (simp only [List.length_drop, List.length_take]; rfl)) ?_; (with_reducible refine (spec_l20Rd_pick.calls k g s0_0 t194 512 t196 t197 w0 _ ?side1 ?side2 A7.out).mono ?_); (case side1 => repeat (first | (with_reducible first | exact HI0.out | apply IsS82.alloc | apply IsS82.drewN | apply IsS82.drew | apply IsS82.set_1 | refine IsS82.far ?_ NB0_187.out _) | exact HI0.out)); (case side2 => repeat (first | (with_reducible first | exact HB.out | apply na_ | apply nn_ | apply nw_ | refine bs_ ?_ (IsS82.ge HI0.out) | refine bs_ ?_ GE187.out) | exact HB.out)); rintro e w58 ⟨rfl, hi, hb, hk⟩; refine ⟨_, rfl, ?_⟩; have n0_ := mk_ (KeepBut.blk hk (g' := gb187) (o := .cells #[.int .i64 0, .int .i64 0, .int .i64 0, .int .i64 0] 88 (0, 0)) (u_ BK187.out) NB187_0.out (by simp)); have n1_ := mk_ (Kd.R_mono (Kd.R_keep (IsS82.apart (show IsS82 w0 _ g s0_0 t194 from by repeat (first | (with_reducible first | exact HI0.out | apply IsS82.alloc | apply IsS82.drewN | apply IsS82.drew | apply IsS82.set_1 | refine IsS82.far ?_ NB0_187.out _) | exact HI0.out)) (Kd.ur_ HO192.out) (by decide)) hk (fun _ h => h.2)) (fun _ h => h.1)); have n2_ := mk_ (KeepBut.trans (by repeat (first | (with_reducible first | exact HK.out | apply KeepBut.set_ | apply keep_drewN | apply keep_drew | apply keep_alloc | refine keep_far ?_ GW187.out _) | exact HK.out)) hk (.inl rfl)); have n3_ := mk_ (hb); have n4_ := mk_ (hi); clear BK187; clear HO192; clear HK; clear HB; clear HI0; have BK187 := n0_; have HO192 := n1_; have HK := n2_; have HB := n3_; have HI0 := n4_; clear n0_ n1_ n2_ n3_ n4_; (try clear hb); (try clear hb2); (try clear hk); (try clear hi); clear hA_ A7) | ((with_reducible refine gate_dst (N := 18) rfl ?_); refine Kd.R_lit (Kd.int .i64) _ 3 ?hg (N := 18) ?hd (xs := ([0, 4096, 4352, 4353, wrap64 (4096 + t196), 65535] : List Int)) (inner := [.int .i64 0, .int .i64 4096, .int .i64 4352, .int .i64 4353, .int .i64 (wrap64 (4096 + t196)), .int .i64 65535]) (ok := fun _ => True) (okp := fun _ => True) ?hr ?hp (fun _ hk => hk) trivial (Below.refl _ _) (Nat.le_refl _) (by simp) ?_; (case hd => rfl); (case hg => rfl); (case hr => first | (go_simp; done) | (go_simp; rfl)); (case hp => exact (Reps.one (show Kd.M (Kd.int .i64) _ _ _ 0 [.int .i64 0] from rfl) (Reps.one (show Kd.M (Kd.int .i64) _ _ _ 4096 [.int .i64 4096] from rfl) (Reps.one (show Kd.M (Kd.int .i64) _ _ _ 4352 [.int .i64 4352] from rfl) (Reps.one (show Kd.M (Kd.int .i64) _ _ _ 4353 [.int .i64 4353] from rfl) (Reps.one (show Kd.M (Kd.int .i64) _ _ _ (wrap64 (4096 + t196)) [.int .i64 (wrap64 (4096 + t196))] from rfl) (Reps.one (show Kd.M (Kd.int .i64) _ _ _ 65535 [.int .i64 65535] from rfl) (Reps.none _ _)))))))); intro v199 w59 ho60 hb hg_ hnew_; clear hg_ hnew_; (first | rw [← Ny198.out] at ho60 | (simp only [Int.reduceToNat] at ho60; rw [← Ny198.out] at ho60)); have n0_ := mk_ (Kd.R_elder' (Kd.ur_ HO192.out) (Kd.R_base ho60) hb); have n1_ := mk_ (Kd.R_lower (Kd.R_new' ho60 (Kd.R_lt (Kd.ur_ HO192.out))) (keep_size (w := w) (g := g) (row := none) (by repeat (first | (with_reducible first | exact HK.out | apply KeepBut.set_ | apply keep_drewN | apply keep_drew | apply keep_alloc | refine keep_far ?_ GW187.out _) | exact HK.out)))); have n2_ := mk_ (IsS82.below (by repeat (first | (with_reducible first | exact HI0.out | apply IsS82.alloc | apply IsS82.drewN | apply IsS82.drew | apply IsS82.set_1 | refine IsS82.far ?_ NB0_187.out _) | exact HI0.out)) hb); have n3_ := mk_ (blk_below (u_ BK187.out) hb); have n4_ := mk_ (KeepBut.trans (by repeat (first | (with_reducible first | exact HK.out | apply KeepBut.set_ | apply keep_drewN | apply keep_drew | apply keep_alloc | refine keep_far ?_ GW187.out _) | exact HK.out)) (KeepBut.of_below hb g none) (.inl rfl)); have n5_ := mk_ (below_step (by repeat (first | (with_reducible first | exact HB.out | apply na_ | apply nn_ | apply nw_ | refine bs_ ?_ (IsS82.ge HI0.out) | refine bs_ ?_ GE187.out) | exact HB.out)) hb); clear HO192; clear HI0; clear BK187; clear HK; clear HB; have HO192 := n0_; have HO200 := n1_; have HI0 := n2_; have BK187 := n3_; have HK := n4_; have HB := n5_; clear n0_ n1_ n2_ n3_ n4_ n5_; clear hb ho60) | ((with_reducible refine gate_callee (f := 46) rfl ?_); have hA_ := A8.out; refine goesL_ (some 20) rfl rfl Try.func46 (by kernel_rfl) rfl #[.pointer (some ⟨g, 0, none⟩), .int .i64 6] rfl (by (try simp only [lm_, lo_, ln_]); first | done | rfl | (simp only [List.length_drop, List.length_take]; rfl)) ?_; (with_reducible refine (spec_l20Rd_pick.calls k g s0_0 t197 6 t201 t202 w0 _ ?side1 ?side2 A8.out).mono ?_); (case side1 => repeat (first | (with_reducible first | exact HI0.out | apply IsS82.alloc | apply IsS82.drewN | apply IsS82.drew | apply IsS82.set_1 | refine IsS82.far ?_ NB0_187.out _) | exact HI0.out)); (case side2 => repeat (first | (with_reducible first | exact HB.out | apply na_ | apply nn_ | apply nw_ | refine bs_ ?_ (IsS82.ge HI0.out) | refine bs_ ?_ GE187.out) | exact HB.out)); rintro e w61 ⟨rfl, hi, hb, hk⟩; refine ⟨_, rfl, ?_⟩; have n0_ := mk_ (KeepBut.blk hk (g' := gb187) (o := .cells #[.int .i64 0, .int .i64 0, .int .i64 0, .int .i64 0] 88 (0, 0)) (u_ BK187.out) NB187_0.out (by simp)); have n1_ := mk_ (Kd.R_mono (Kd.R_keep (IsS82.apart (show IsS82 w0 _ g s0_0 t197 from by repeat (first | (with_reducible first | exact HI0.out | apply IsS82.alloc | apply IsS82.drewN | apply IsS82.drew | apply IsS82.set_1 | refine IsS82.far ?_ NB0_187.out _) | exact HI0.out)) (Kd.ur_ HO192.out) (by decide)) hk (fun _ h => h.2)) (fun _ h => h.1)); have n2_ := mk_ (Kd.R_mono (Kd.R_keep (IsS82.apart (show IsS82 w0 _ g s0_0 t197 from by repeat (first | (with_reducible first | exact HI0.out | apply IsS82.alloc | apply IsS82.drewN | apply IsS82.drew | apply IsS82.set_1 | refine IsS82.far ?_ NB0_187.out _) | exact HI0.out)) (Kd.ur_ HO200.out) (by decide)) hk (fun _ h => h.2)) (fun _ h => h.1)); have n3_ := mk_ (KeepBut.trans (by repeat (first | (with_reducible first | exact HK.out | apply KeepBut.set_ | apply keep_drewN | apply keep_drew | apply keep_alloc | refine keep_far ?_ GW187.out _) | exact HK.out)) hk (.inl rfl)); have n4_ := mk_ (hb); have n5_ := mk_ (hi); clear BK187; clear HO192; clear HO200; clear HK; clear HB; clear HI0; have BK187 := n0_; have HO192 := n1_; have HO200 := n2_; have HK := n3_; have HB := n4_; have HI0 := n5_; clear n0_ n1_ n2_ n3_ n4_ n5_; (try clear hb); (try clear hb2); (try clear hk); (try clear hi); obtain ⟨Ao62, co62, eo62⟩ := Kd.R_slice HO200.out; subst eo62; have p203 : 0 ≤ (t201 : Int) := of_decide_eq_true (by first | (with_reducible assumption) | assumption); have q203 : t201 < (y198.length : Int) := of_decide_eq_true (by first | (with_reducible assumption) | assumption); obtain ⟨ad203, e203, hx203_0⟩ := Kd.at_int (Kd.R_reads' HO200.out).2.2 t201 p203 q203; cases e203; replace p203 := eq_true p203; replace q203 := eq_true q203; clear hA_ A8))
 have n0_ := mk_ (Kd.R_drew HO192.out)
 have n1_ := mk_ (Kd.R_drew HO200.out)
 have n2_ := mk_ (blk_drew BK187.out)
 have n3_ := mk_ (IsS82.drew HI0.out)
 have n4_ := mk_ (keep_drew HK.out)
 have n5_ := mk_ (below_drew1 HB.out)
 clear HO192
 clear HO200
 clear BK187
 clear HI0
 clear HK
 clear HB
 have HO192 := n0_
 have HO200 := n1_
 have BK187 := n2_
 have HI0 := n3_
 have HK := n4_
 have HB := n5_
 clear n0_ n1_ n2_ n3_ n4_ n5_
 refine start_ (n := 17) (S := fun w' => True) (ds := []) #[F_, F_, F_, F_, F_, F_, F_, F_, F_, F_, F_, F_, F_, F_, F_, F_, F_] (by kernel_rfl) rfl rfl trivial (fun hHeld => ?_); refine with_tabW spec_l20Route.tab3 spec_l20Route.bits3 (fun HT_ HW_ => ?_)
 generalize w61.drew = w63 at HO192 HO200 BK187 HI0 HK HB hHeld ⊢
 refine pure_ (i := 0) (N := some 23) (v := ?_) (a' := ?_) #[T_, F_, F_, F_, F_, F_, F_, F_, F_, F_, F_, F_, F_, F_, F_, F_, F_] rfl rfl (any_of HT_.out (by kernel_rfl)) (fun _ _ _ h => h) (Or.inl ⟨by rfl, ?_⟩) ?_ ?_
 rotate_left
 ·intro w'
  go_simp
  with_reducible rfl
 rotate_left
 ·simp only [Act.put, la_, lz_, ls_, i64_w, i32_w]
  rfl
 refine pure_ (i := 1) (N := some 24) (v := ?_) (a' := ?_) #[T_, T_, F_, F_, F_, F_, F_, F_, F_, F_, F_, F_, F_, F_, F_, F_, F_] rfl rfl (any_of HT_.out (by kernel_rfl)) (fun _ _ _ h => h) (Or.inl ⟨by rfl, ?_⟩) ?_ ?_
 rotate_left
 ·intro w'
  go_simp
  with_reducible rfl
 rotate_left
 ·simp only [Act.put, la_, lz_, ls_, i64_w, i32_w]
  rfl
 refine pure_ (i := 2) (N := some 25) (v := ?_) (a' := ?_) #[T_, T_, T_, F_, F_, F_, F_, F_, F_, F_, F_, F_, F_, F_, F_, F_, F_] rfl rfl (any_of HT_.out (by kernel_rfl)) (fun _ _ _ h => h) (Or.inl ⟨by rfl, ?_⟩) ?_ ?_
 rotate_left
 ·intro w'
  go_simp
  with_reducible rfl
 rotate_left
 ·simp only [Act.put, la_, lz_, ls_, i64_w, i32_w]
  rfl
 refine pure_ (i := 3) (N := some 26) (v := ?_) (a' := ?_) #[T_, T_, T_, T_, F_, F_, F_, F_, F_, F_, F_, F_, F_, F_, F_, F_, F_] rfl rfl (any_of HT_.out (by kernel_rfl)) (fun _ _ _ h => h) (Or.inl ⟨by rfl, ?_⟩) ?_ ?_
 rotate_left
 ·intro w'
  go_simp
  with_reducible rfl
 rotate_left
 ·simp only [Act.put, la_, lz_, ls_, i64_w, i32_w]
  rfl
 refine pure_ (i := 4) (N := some 27) (v := ?_) (a' := ?_) #[T_, T_, T_, T_, T_, F_, F_, F_, F_, F_, F_, F_, F_, F_, F_, F_, F_] rfl rfl (any_of HT_.out (by kernel_rfl)) (fun _ _ _ h => h) (Or.inl ⟨by rfl, ?_⟩) ?_ ?_
 rotate_left
 ·intro w'
  go_simp
  with_reducible rfl
 rotate_left
 ·simp only [Act.put, la_, lz_, ls_, i64_w, i32_w]
  rfl
 refine pure_ (i := 5) (N := some 28) (v := ?_) (a' := ?_) #[T_, T_, T_, T_, T_, T_, F_, F_, F_, F_, F_, F_, F_, F_, F_, F_, F_] rfl rfl (any_of HT_.out (by kernel_rfl)) (fun _ _ _ h => h) (Or.inl ⟨by rfl, ?_⟩) ?_ ?_
 rotate_left
 ·intro w'
  go_simp
  with_reducible rfl
 rotate_left
 ·simp only [Act.put, la_, lz_, ls_, i64_w, i32_w]
  rfl
 refine pure_ (i := 6) (N := some 29) (v := ?_) (a' := ?_) #[T_, T_, T_, T_, T_, T_, T_, F_, F_, F_, F_, F_, F_, F_, F_, F_, F_] rfl rfl (any_of HT_.out (by kernel_rfl)) (fun _ _ _ h => h) (Or.inl ⟨by rfl, ?_⟩) ?_ ?_
 rotate_left
 ·intro w'
  go_simp
  with_reducible rfl
 rotate_left
 ·simp only [Act.put, la_, lz_, ls_, i64_w, i32_w]
  rfl
 refine pure_ (i := 7) (N := some 30) (v := ?_) (a' := ?_) #[T_, T_, T_, T_, T_, T_, T_, T_, F_, F_, F_, F_, F_, F_, F_, F_, F_] rfl rfl (any_of HT_.out (by kernel_rfl)) (fun _ _ _ h => h) (Or.inl ⟨by rfl, ?_⟩) ?_ ?_
 rotate_left
 ·intro w'
  go_simp
  with_reducible rfl
 rotate_left
 ·simp only [Act.put, la_, lz_, ls_, i64_w, i32_w]
  rfl
 refine pure_ (i := 8) (N := some 31) (v := ?_) (a' := ?_) #[T_, T_, T_, T_, T_, T_, T_, T_, T_, F_, F_, F_, F_, F_, F_, F_, F_] rfl rfl (any_of HT_.out (by kernel_rfl)) (fun _ _ _ h => h) (Or.inl ⟨by rfl, ?_⟩) ?_ ?_
 rotate_left
 ·intro w'
  go_simp
  with_reducible rfl
 rotate_left
 ·simp only [Act.put, la_, lz_, ls_, i64_w, i32_w]
  rfl
 refine pure_ (i := 10) (N := some 33) (v := ?_) (a' := ?_) #[T_, T_, T_, T_, T_, T_, T_, T_, T_, F_, T_, F_, F_, F_, F_, F_, F_] rfl rfl (any_of HT_.out (by kernel_rfl)) (fun _ _ _ h => h) (Or.inl ⟨by rfl, ?_⟩) ?_ ?_
 rotate_left
 ·intro w'
  go_simp
  with_reducible rfl
 rotate_left
 ·simp only [Act.put, la_, lz_, ls_, i64_w, i32_w]
  rfl
 refine join_ (σ := Nat) 1 #[T_, T_, T_, T_, T_, T_, T_, T_, T_, T_, T_, T_, T_, T_, T_, T_, F_] (fun s_ => [(32, .int .i64 t204), (34, .int .i64 t206), (7, .pointer (some ⟨s_, 0, none⟩)), (35, .int .i64 (wrap64 (t206 * 6))), (36, .int .i64 (wrap64 (4 + (wrap64 (t206 * 6))))), (37, .agg #[.int .i64 (wrap64 ((rd y198 t201) - (Int.tmod (rd y198 t201) (ji13)))), .int .i64 (rd y190 t193), .int .i64 t204, .int .i64 (wrap64 (4 + (wrap64 (t206 * 6))))])]) (fun s_ w' => (Kd.R (Kd.int .i64) 3 w' w.heap.size (fun k_ => some k_ ≠ (.slice (some ad203) y198.length co62 : Value).ownBlock) (.slice (some ad195) y190.length co57) y190) ∧ (Kd.R (Kd.int .i64) 3 w' w.heap.size (fun k_ => some k_ ≠ (.slice (some ad195) y190.length co57 : Value).ownBlock) (.slice (some ad203) y198.length co62) y198) ∧ (w'.heap[gb187]? = some (.cells #[.int .i64 0, .int .i64 0, .int .i64 0, .int .i64 0] 88 (0, 0))) ∧ (w'.heap[s_]? = some (.cells #[.int .i64 0, .int .i64 0, .int .i64 0, .int .i64 0] 88 (0, 0))) ∧ (w.heap.size ≤ s_) ∧ (w0.heap.size ≤ s_) ∧ (g ≠ s_) ∧ (s_ ≠ g) ∧ (gb187 ≠ s_) ∧ (s_ ≠ gb187) ∧ (IsS82 w0 w' g s0_0 t207) ∧ (KeepBut w w' g none) ∧ (Below w0.heap.size w0 w')) ?_ ?_
 rotate_left
 ·intro hCont
  refine two_ (i := 9) (j := 15) (Ni := some 32) (Nj := some 7) #[T_, T_, T_, T_, T_, T_, T_, T_, T_, T_, T_, F_, F_, F_, F_, F_, F_] #[T_, T_, T_, T_, T_, T_, T_, T_, T_, F_, T_, F_, F_, F_, F_, T_, F_] rfl rfl rfl rfl (two_of HT_.out (by kernel_rfl)) (by decide) (by decide) (fun K hK => ?_) (fun K hK => ?_)
  ·skip
   refine goes_ Try.func46 (by kernel_rfl) rfl #[.pointer (some ⟨g, 0, none⟩), .int .i64 3] (by rfl) rfl rfl (by (try simp only [lm_, lo_, ln_]); first | done | rfl | (simp only [List.length_drop, List.length_take]; rfl)) ?_
   with_reducible refine (spec_l20Rd_pick.calls k g s0_0 t202 3 t204 t205 w0 _ ?side1 ?side2 A15.out).mono ?_
   (case side1 => repeat (first | (with_reducible first | exact HI0.out | apply IsS82.alloc | apply IsS82.drewN | apply IsS82.drew | apply IsS82.set_1 | refine IsS82.far ?_ NB0_187.out _) | exact HI0.out))
   (case side2 => repeat (first | (with_reducible first | exact HB.out | apply na_ | apply nn_ | apply nw_ | refine bs_ ?_ (IsS82.ge HI0.out) | refine bs_ ?_ GE187.out) | exact HB.out))
   rintro e w64 ⟨rfl, hi, hb, hk⟩
   refine ⟨_, rfl, ?_⟩
   have n0_ := mk_ (KeepBut.blk hk (g' := gb187) (o := .cells #[.int .i64 0, .int .i64 0, .int .i64 0, .int .i64 0] 88 (0, 0)) (u_ BK187.out) NB187_0.out (by simp))
   have n1_ := mk_ (Kd.R_mono (Kd.R_keep (IsS82.apart (show IsS82 w0 _ g s0_0 t202 from by repeat (first | (with_reducible first | exact HI0.out | apply IsS82.alloc | apply IsS82.drewN | apply IsS82.drew | apply IsS82.set_1 | refine IsS82.far ?_ NB0_187.out _) | exact HI0.out)) (Kd.ur_ HO192.out) (by decide)) hk (fun _ h => h.2)) (fun _ h => h.1))
   have n2_ := mk_ (Kd.R_mono (Kd.R_keep (IsS82.apart (show IsS82 w0 _ g s0_0 t202 from by repeat (first | (with_reducible first | exact HI0.out | apply IsS82.alloc | apply IsS82.drewN | apply IsS82.drew | apply IsS82.set_1 | refine IsS82.far ?_ NB0_187.out _) | exact HI0.out)) (Kd.ur_ HO200.out) (by decide)) hk (fun _ h => h.2)) (fun _ h => h.1))
   have n3_ := mk_ (KeepBut.trans (by repeat (first | (with_reducible first | exact HK.out | apply KeepBut.set_ | apply keep_drewN | apply keep_drew | apply keep_alloc | refine keep_far ?_ GW187.out _) | exact HK.out)) hk (.inl rfl))
   have n4_ := mk_ (hb)
   have n5_ := mk_ (hi)
   clear BK187
   clear HO192
   clear HO200
   clear HK
   clear HB
   clear HI0
   have BK187 := n0_
   have HO192 := n1_
   have HO200 := n2_
   have HK := n3_
   have HB := n4_
   have HI0 := n5_
   clear n0_ n1_ n2_ n3_ n4_ n5_
   (try clear hb)
   (try clear hb2)
   (try clear hk)
   (try clear hi)
   refine hK.out _ _ trivial (fun hHeld => ?_)
   clear hK K
   refine norm_ (a' := ?_) ?_ ?_
   rotate_left
   ·show Act.put _ (some 32) _ = _
    simp only [Act.put, la_, lz_, ls_, i64_w, i32_w]
    rfl
   refine two_ (i := 11) (j := 15) (Ni := some 34) (Nj := some 7) #[T_, T_, T_, T_, T_, T_, T_, T_, T_, T_, T_, T_, F_, F_, F_, F_, F_] #[T_, T_, T_, T_, T_, T_, T_, T_, T_, T_, T_, F_, F_, F_, F_, T_, F_] rfl rfl rfl rfl (two_of HT_.out (by kernel_rfl)) (by decide) (by decide) (fun K hK => ?_) (fun K hK => ?_)
   ·skip
    refine goes_ Try.func46 (by kernel_rfl) rfl #[.pointer (some ⟨g, 0, none⟩), .int .i64 3] (by rfl) rfl rfl (by (try simp only [lm_, lo_, ln_]); first | done | rfl | (simp only [List.length_drop, List.length_take]; rfl)) ?_
    with_reducible refine (spec_l20Rd_pick.calls k g s0_0 t205 3 t206 t207 w0 _ ?side1 ?side2 A16.out).mono ?_
    (case side1 => repeat (first | (with_reducible first | exact HI0.out | apply IsS82.alloc | apply IsS82.drewN | apply IsS82.drew | apply IsS82.set_1 | refine IsS82.far ?_ NB0_187.out _) | exact HI0.out))
    (case side2 => repeat (first | (with_reducible first | exact HB.out | apply na_ | apply nn_ | apply nw_ | refine bs_ ?_ (IsS82.ge HI0.out) | refine bs_ ?_ GE187.out) | exact HB.out))
    rintro e w65 ⟨rfl, hi, hb, hk⟩
    refine ⟨_, rfl, ?_⟩
    have n0_ := mk_ (KeepBut.blk hk (g' := gb187) (o := .cells #[.int .i64 0, .int .i64 0, .int .i64 0, .int .i64 0] 88 (0, 0)) (u_ BK187.out) NB187_0.out (by simp))
    have n1_ := mk_ (Kd.R_mono (Kd.R_keep (IsS82.apart (show IsS82 w0 _ g s0_0 t205 from by repeat (first | (with_reducible first | exact HI0.out | apply IsS82.alloc | apply IsS82.drewN | apply IsS82.drew | apply IsS82.set_1 | refine IsS82.far ?_ NB0_187.out _) | exact HI0.out)) (Kd.ur_ HO192.out) (by decide)) hk (fun _ h => h.2)) (fun _ h => h.1))
    have n2_ := mk_ (Kd.R_mono (Kd.R_keep (IsS82.apart (show IsS82 w0 _ g s0_0 t205 from by repeat (first | (with_reducible first | exact HI0.out | apply IsS82.alloc | apply IsS82.drewN | apply IsS82.drew | apply IsS82.set_1 | refine IsS82.far ?_ NB0_187.out _) | exact HI0.out)) (Kd.ur_ HO200.out) (by decide)) hk (fun _ h => h.2)) (fun _ h => h.1))
    have n3_ := mk_ (KeepBut.trans (by repeat (first | (with_reducible first | exact HK.out | apply KeepBut.set_ | apply keep_drewN | apply keep_drew | apply keep_alloc | refine keep_far ?_ GW187.out _) | exact HK.out)) hk (.inl rfl))
    have n4_ := mk_ (hb)
    have n5_ := mk_ (hi)
    clear BK187
    clear HO192
    clear HO200
    clear HK
    clear HB
    clear HI0
    have BK187 := n0_
    have HO192 := n1_
    have HO200 := n2_
    have HK := n3_
    have HB := n4_
    have HI0 := n5_
    clear n0_ n1_ n2_ n3_ n4_ n5_
    (try clear hb)
    (try clear hb2)
    (try clear hk)
    (try clear hi)
    refine hK.out _ _ trivial (fun hHeld => ?_)
    clear hK K
    refine norm_ (a' := ?_) ?_ ?_
    rotate_left
    ·show Act.put _ (some 34) _ = _
     simp only [Act.put, la_, lz_, ls_, i64_w, i32_w]
     rfl
    refine pure_ (i := 12) (N := some 35) (v := ?_) (a' := ?_) #[T_, T_, T_, T_, T_, T_, T_, T_, T_, T_, T_, T_, T_, F_, F_, F_, F_] rfl rfl (any_of HT_.out (by kernel_rfl)) (fun _ _ _ h => h) (Or.inl ⟨by rfl, ?_⟩) ?_ ?_
    rotate_left
    ·intro w'
     go_simp
     with_reducible rfl
    rotate_left
    ·simp only [Act.put, la_, lz_, ls_, i64_w, i32_w]
     rfl
    refine pure_ (i := 13) (N := some 36) (v := ?_) (a' := ?_) #[T_, T_, T_, T_, T_, T_, T_, T_, T_, T_, T_, T_, T_, T_, F_, F_, F_] rfl rfl (any_of HT_.out (by kernel_rfl)) (fun _ _ _ h => h) (Or.inl ⟨by rfl, ?_⟩) ?_ ?_
    rotate_left
    ·intro w'
     go_simp
     with_reducible rfl
    rotate_left
    ·simp only [Act.put, la_, lz_, ls_, i64_w, i32_w]
     rfl
    refine pure_ (i := 14) (N := some 37) (v := ?_) (a' := ?_) #[T_, T_, T_, T_, T_, T_, T_, T_, T_, T_, T_, T_, T_, T_, T_, F_, F_] rfl rfl (any_of HT_.out (by kernel_rfl)) (fun _ _ _ h => h) (Or.inl ⟨by rfl, ?_⟩) ?_ ?_
    rotate_left
    ·intro w'
     go_simp
     with_reducible rfl
    rotate_left
    ·simp only [Act.put, la_, lz_, ls_, i64_w, i32_w]
     rfl
    refine one_ (i := 15) (N := some 7) #[T_, T_, T_, T_, T_, T_, T_, T_, T_, T_, T_, T_, T_, T_, T_, T_, F_] rfl rfl (one_of HT_.out (by kernel_rfl)) (by decide) (fun K hK => ?_)
    refine box_step ?hg (N := 7) ?hd (cs := #[.int .i64 0, .int .i64 0, .int .i64 0, .int .i64 0]) (t := 88) ?hr ?_; (case hd => rfl); (case hg => rfl); (case hr => first | (go_simp; done) | (go_simp; rfl))
    intro gb208 hg w66 hbox hb
    have n0_ := mk_ (Kd.R_below (Kd.ur_ HO192.out) hb)
    have n1_ := mk_ (Kd.R_below (Kd.ur_ HO200.out) hb)
    have n2_ := mk_ (IsS82.below (by repeat (first | (with_reducible first | exact HI0.out | apply IsS82.alloc | apply IsS82.drewN | apply IsS82.drew | apply IsS82.set_1 | refine IsS82.far ?_ NB0_187.out _) | exact HI0.out)) hb)
    have n3_ := mk_ (blk_below (u_ BK187.out) hb)
    have n4_ := mk_ (KeepBut.trans (by repeat (first | (with_reducible first | exact HK.out | apply KeepBut.set_ | apply keep_drewN | apply keep_drew | apply keep_alloc | refine keep_far ?_ GW187.out _) | exact HK.out)) (KeepBut.of_below hb g none) (.inl rfl))
    have n5_ := mk_ (below_step (by repeat (first | (with_reducible first | exact HB.out | apply na_ | apply nn_ | apply nw_ | refine bs_ ?_ (IsS82.ge HI0.out) | refine bs_ ?_ GE187.out) | exact HB.out)) hb)
    have n6_ := mk_ (hbox)
    have n7_ := mk_ ((by rw [hg]; exact (keep_size (w := w) (g := g) (row := none) (by repeat (first | (with_reducible first | exact HK.out | apply KeepBut.set_ | apply keep_drewN | apply keep_drew | apply keep_alloc | refine keep_far ?_ GW187.out _) | exact HK.out))) : w.heap.size ≤ gb208))
    have n8_ := mk_ ((Nat.le_trans HW0.out (by rw [hg]; exact (keep_size (w := w) (g := g) (row := none) (by repeat (first | (with_reducible first | exact HK.out | apply KeepBut.set_ | apply keep_drewN | apply keep_drew | apply keep_alloc | refine keep_far ?_ GW187.out _) | exact HK.out))) : w.heap.size ≤ gb208) : w0.heap.size ≤ gb208))
    have n9_ := mk_ ((by rw [hg]; exact Nat.ne_of_lt (blk_lt (u_ BK187.out)) : gb187 ≠ gb208))
    have n10_ := mk_ ((by rw [hg]; exact Nat.ne_of_gt (blk_lt (u_ BK187.out)) : gb208 ≠ gb187))
    have n11_ := mk_ ((by rw [hg]; exact Nat.ne_of_lt (IsS82.lt (show IsS82 w0 _ g s0_0 t207 from by repeat (first | (with_reducible first | exact HI0.out | apply IsS82.alloc | apply IsS82.drewN | apply IsS82.drew | apply IsS82.set_1 | refine IsS82.far ?_ NB0_187.out _) | exact HI0.out))) : g ≠ gb208))
    have n12_ := mk_ ((by rw [hg]; exact Nat.ne_of_gt (IsS82.lt (show IsS82 w0 _ g s0_0 t207 from by repeat (first | (with_reducible first | exact HI0.out | apply IsS82.alloc | apply IsS82.drewN | apply IsS82.drew | apply IsS82.set_1 | refine IsS82.far ?_ NB0_187.out _) | exact HI0.out))) : gb208 ≠ g))
    clear HO192
    clear HO200
    clear HI0
    clear BK187
    clear HK
    clear HB
    have HO192 := n0_
    have HO200 := n1_
    have HI0 := n2_
    have BK187 := n3_
    have HK := n4_
    have HB := n5_
    have BK208 := n6_
    have GW208 := n7_
    have GE208 := ge_ n8_.out
    have NB187_208 := nq_ n9_.out
    have NB208_187 := nq_ n10_.out
    have NB0_208 := nq_ n11_.out
    have NB208_0 := nq_ n12_.out
    clear n0_ n1_ n2_ n3_ n4_ n5_ n6_ n7_ n8_ n9_ n10_ n11_ n12_
    clear hb hbox hg
    refine hK.out _ _ trivial (fun hHeld => ?_)
    clear hK K
    refine norm_ (a' := ?_) ?_ ?_
    rotate_left
    ·show Act.put _ (some 7) _ = _
     simp only [Act.put, la_, lz_, ls_, i64_w, i32_w]
     rfl
    exact norm_ (by simp only [putAll, Act.put, la_, lz_, ls_]) (hCont (gb208) _ ⟨(by (with_reducible repeat (first | apply Kd.R_alloc | apply Kd.R_drewN | apply Kd.R_drew)); exact Kd.R_mono HO192.out (fun _ hk => hk.2)), (by (with_reducible repeat (first | apply Kd.R_alloc | apply Kd.R_drewN | apply Kd.R_drew)); exact Kd.R_mono HO200.out (fun _ hk => hk.2)), (u_ BK187.out), (u_ BK208.out), GW208.out, GE208.out, NB0_208.out, NB208_0.out, NB187_208.out, NB208_187.out, (by repeat (first | (with_reducible first | exact HI0.out | apply IsS82.alloc | apply IsS82.drewN | apply IsS82.drew | apply IsS82.set_1 | refine IsS82.far ?_ NB0_187.out _ | refine IsS82.far ?_ NB0_208.out _) | exact HI0.out)), (by repeat (first | (with_reducible first | exact HK.out | apply KeepBut.set_ | apply keep_drewN | apply keep_drew | apply keep_alloc | refine keep_far ?_ GW187.out _ | refine keep_far ?_ GW208.out _) | exact HK.out)), (by repeat (first | (with_reducible first | exact HB.out | apply na_ | apply nn_ | apply nw_ | refine bs_ ?_ (IsS82.ge HI0.out) | refine bs_ ?_ GE187.out | refine bs_ ?_ GE208.out) | exact HB.out))⟩)
   skip
   refine box_step ?hg (N := 7) ?hd (cs := #[.int .i64 0, .int .i64 0, .int .i64 0, .int .i64 0]) (t := 88) ?hr ?_; (case hd => rfl); (case hg => rfl); (case hr => first | (go_simp; done) | (go_simp; rfl))
   intro gb208 hg w65 hbox hb
   have n0_ := mk_ (Kd.R_below (Kd.ur_ HO192.out) hb)
   have n1_ := mk_ (Kd.R_below (Kd.ur_ HO200.out) hb)
   have n2_ := mk_ (IsS82.below (by repeat (first | (with_reducible first | exact HI0.out | apply IsS82.alloc | apply IsS82.drewN | apply IsS82.drew | apply IsS82.set_1 | refine IsS82.far ?_ NB0_187.out _) | exact HI0.out)) hb)
   have n3_ := mk_ (blk_below (u_ BK187.out) hb)
   have n4_ := mk_ (KeepBut.trans (by repeat (first | (with_reducible first | exact HK.out | apply KeepBut.set_ | apply keep_drewN | apply keep_drew | apply keep_alloc | refine keep_far ?_ GW187.out _) | exact HK.out)) (KeepBut.of_below hb g none) (.inl rfl))
   have n5_ := mk_ (below_step (by repeat (first | (with_reducible first | exact HB.out | apply na_ | apply nn_ | apply nw_ | refine bs_ ?_ (IsS82.ge HI0.out) | refine bs_ ?_ GE187.out) | exact HB.out)) hb)
   have n6_ := mk_ (hbox)
   have n7_ := mk_ ((by rw [hg]; exact (keep_size (w := w) (g := g) (row := none) (by repeat (first | (with_reducible first | exact HK.out | apply KeepBut.set_ | apply keep_drewN | apply keep_drew | apply keep_alloc | refine keep_far ?_ GW187.out _) | exact HK.out))) : w.heap.size ≤ gb208))
   have n8_ := mk_ ((Nat.le_trans HW0.out (by rw [hg]; exact (keep_size (w := w) (g := g) (row := none) (by repeat (first | (with_reducible first | exact HK.out | apply KeepBut.set_ | apply keep_drewN | apply keep_drew | apply keep_alloc | refine keep_far ?_ GW187.out _) | exact HK.out))) : w.heap.size ≤ gb208) : w0.heap.size ≤ gb208))
   have n9_ := mk_ ((by rw [hg]; exact Nat.ne_of_lt (blk_lt (u_ BK187.out)) : gb187 ≠ gb208))
   have n10_ := mk_ ((by rw [hg]; exact Nat.ne_of_gt (blk_lt (u_ BK187.out)) : gb208 ≠ gb187))
   have n11_ := mk_ ((by rw [hg]; exact Nat.ne_of_lt (IsS82.lt (show IsS82 w0 _ g s0_0 t205 from by repeat (first | (with_reducible first | exact HI0.out | apply IsS82.alloc | apply IsS82.drewN | apply IsS82.drew | apply IsS82.set_1 | refine IsS82.far ?_ NB0_187.out _) | exact HI0.out))) : g ≠ gb208))
   have n12_ := mk_ ((by rw [hg]; exact Nat.ne_of_gt (IsS82.lt (show IsS82 w0 _ g s0_0 t205 from by repeat (first | (with_reducible first | exact HI0.out | apply IsS82.alloc | apply IsS82.drewN | apply IsS82.drew | apply IsS82.set_1 | refine IsS82.far ?_ NB0_187.out _) | exact HI0.out))) : gb208 ≠ g))
   clear HO192
   clear HO200
   clear HI0
   clear BK187
   clear HK
   clear HB
   have HO192 := n0_
   have HO200 := n1_
   have HI0 := n2_
   have BK187 := n3_
   have HK := n4_
   have HB := n5_
   have BK208 := n6_
   have GW208 := n7_
   have GE208 := ge_ n8_.out
   have NB187_208 := nq_ n9_.out
   have NB208_187 := nq_ n10_.out
   have NB0_208 := nq_ n11_.out
   have NB208_0 := nq_ n12_.out
   clear n0_ n1_ n2_ n3_ n4_ n5_ n6_ n7_ n8_ n9_ n10_ n11_ n12_
   clear hb hbox hg
   refine hK.out _ _ trivial (fun hHeld => ?_)
   clear hK K
   refine norm_ (a' := ?_) ?_ ?_
   rotate_left
   ·show Act.put _ (some 7) _ = _
    simp only [Act.put, la_, lz_, ls_, i64_w, i32_w]
    rfl
   refine one_ (i := 11) (N := some 34) #[T_, T_, T_, T_, T_, T_, T_, T_, T_, T_, T_, T_, F_, F_, F_, T_, F_] rfl rfl (one_of HT_.out (by kernel_rfl)) (by decide) (fun K hK => ?_)
   refine goes_ Try.func46 (by kernel_rfl) rfl #[.pointer (some ⟨g, 0, none⟩), .int .i64 3] (by rfl) rfl rfl (by (try simp only [lm_, lo_, ln_]); first | done | rfl | (simp only [List.length_drop, List.length_take]; rfl)) ?_
   with_reducible refine (spec_l20Rd_pick.calls k g s0_0 t205 3 t206 t207 w0 _ ?side1 ?side2 A16.out).mono ?_
   (case side1 => repeat (first | (with_reducible first | exact HI0.out | apply IsS82.alloc | apply IsS82.drewN | apply IsS82.drew | apply IsS82.set_1 | refine IsS82.far ?_ NB0_187.out _ | refine IsS82.far ?_ NB0_208.out _) | exact HI0.out))
   (case side2 => repeat (first | (with_reducible first | exact HB.out | apply na_ | apply nn_ | apply nw_ | refine bs_ ?_ (IsS82.ge HI0.out) | refine bs_ ?_ GE187.out | refine bs_ ?_ GE208.out) | exact HB.out))
   rintro e w66 ⟨rfl, hi, hb, hk⟩
   refine ⟨_, rfl, ?_⟩
   have n0_ := mk_ (KeepBut.blk hk (g' := gb187) (o := .cells #[.int .i64 0, .int .i64 0, .int .i64 0, .int .i64 0] 88 (0, 0)) (u_ BK187.out) NB187_0.out (by simp))
   have n1_ := mk_ (Kd.R_mono (Kd.R_keep (IsS82.apart (show IsS82 w0 _ g s0_0 t205 from by repeat (first | (with_reducible first | exact HI0.out | apply IsS82.alloc | apply IsS82.drewN | apply IsS82.drew | apply IsS82.set_1 | refine IsS82.far ?_ NB0_187.out _ | refine IsS82.far ?_ NB0_208.out _) | exact HI0.out)) (Kd.ur_ HO192.out) (by decide)) hk (fun _ h => h.2)) (fun _ h => h.1))
   have n2_ := mk_ (Kd.R_mono (Kd.R_keep (IsS82.apart (show IsS82 w0 _ g s0_0 t205 from by repeat (first | (with_reducible first | exact HI0.out | apply IsS82.alloc | apply IsS82.drewN | apply IsS82.drew | apply IsS82.set_1 | refine IsS82.far ?_ NB0_187.out _ | refine IsS82.far ?_ NB0_208.out _) | exact HI0.out)) (Kd.ur_ HO200.out) (by decide)) hk (fun _ h => h.2)) (fun _ h => h.1))
   have n3_ := mk_ (KeepBut.blk hk (g' := gb208) (o := .cells #[.int .i64 0, .int .i64 0, .int .i64 0, .int .i64 0] 88 (0, 0)) (u_ BK208.out) NB208_0.out (by simp))
   have n4_ := mk_ (KeepBut.trans (by repeat (first | (with_reducible first | exact HK.out | apply KeepBut.set_ | apply keep_drewN | apply keep_drew | apply keep_alloc | refine keep_far ?_ GW187.out _ | refine keep_far ?_ GW208.out _) | exact HK.out)) hk (.inl rfl))
   have n5_ := mk_ (hb)
   have n6_ := mk_ (hi)
   clear BK187
   clear HO192
   clear HO200
   clear BK208
   clear HK
   clear HB
   clear HI0
   have BK187 := n0_
   have HO192 := n1_
   have HO200 := n2_
   have BK208 := n3_
   have HK := n4_
   have HB := n5_
   have HI0 := n6_
   clear n0_ n1_ n2_ n3_ n4_ n5_ n6_
   (try clear hb)
   (try clear hb2)
   (try clear hk)
   (try clear hi)
   refine hK.out _ _ trivial (fun hHeld => ?_)
   clear hK K
   refine norm_ (a' := ?_) ?_ ?_
   rotate_left
   ·show Act.put _ (some 34) _ = _
    simp only [Act.put, la_, lz_, ls_, i64_w, i32_w]
    rfl
   refine pure_ (i := 12) (N := some 35) (v := ?_) (a' := ?_) #[T_, T_, T_, T_, T_, T_, T_, T_, T_, T_, T_, T_, T_, F_, F_, T_, F_] rfl rfl (any_of HT_.out (by kernel_rfl)) (fun _ _ _ h => h) (Or.inl ⟨by rfl, ?_⟩) ?_ ?_
   rotate_left
   ·intro w'
    go_simp
    with_reducible rfl
   rotate_left
   ·simp only [Act.put, la_, lz_, ls_, i64_w, i32_w]
    rfl
   refine pure_ (i := 13) (N := some 36) (v := ?_) (a' := ?_) #[T_, T_, T_, T_, T_, T_, T_, T_, T_, T_, T_, T_, T_, T_, F_, T_, F_] rfl rfl (any_of HT_.out (by kernel_rfl)) (fun _ _ _ h => h) (Or.inl ⟨by rfl, ?_⟩) ?_ ?_
   rotate_left
   ·intro w'
    go_simp
    with_reducible rfl
   rotate_left
   ·simp only [Act.put, la_, lz_, ls_, i64_w, i32_w]
    rfl
   refine pure_ (i := 14) (N := some 37) (v := ?_) (a' := ?_) #[T_, T_, T_, T_, T_, T_, T_, T_, T_, T_, T_, T_, T_, T_, T_, T_, F_] rfl rfl (any_of HT_.out (by kernel_rfl)) (fun _ _ _ h => h) (Or.inl ⟨by rfl, ?_⟩) ?_ ?_
   rotate_left
   ·intro w'
    go_simp
    with_reducible rfl
   rotate_left
   ·simp only [Act.put, la_, lz_, ls_, i64_w, i32_w]
    rfl
   exact norm_ (by simp only [putAll, Act.put, la_, lz_, ls_]) (hCont (gb208) _ ⟨(by (with_reducible repeat (first | apply Kd.R_alloc | apply Kd.R_drewN | apply Kd.R_drew)); exact Kd.R_mono HO192.out (fun _ hk => hk.2)), (by (with_reducible repeat (first | apply Kd.R_alloc | apply Kd.R_drewN | apply Kd.R_drew)); exact Kd.R_mono HO200.out (fun _ hk => hk.2)), (u_ BK187.out), (u_ BK208.out), GW208.out, GE208.out, NB0_208.out, NB208_0.out, NB187_208.out, NB208_187.out, (by repeat (first | (with_reducible first | exact HI0.out | apply IsS82.alloc | apply IsS82.drewN | apply IsS82.drew | apply IsS82.set_1 | refine IsS82.far ?_ NB0_187.out _ | refine IsS82.far ?_ NB0_208.out _) | exact HI0.out)), (by repeat (first | (with_reducible first | exact HK.out | apply KeepBut.set_ | apply keep_drewN | apply keep_drew | apply keep_alloc | refine keep_far ?_ GW187.out _ | refine keep_far ?_ GW208.out _) | exact HK.out)), (by repeat (first | (with_reducible first | exact HB.out | apply na_ | apply nn_ | apply nw_ | refine bs_ ?_ (IsS82.ge HI0.out) | refine bs_ ?_ GE187.out | refine bs_ ?_ GE208.out) | exact HB.out))⟩)
  skip
  refine box_step ?hg (N := 7) ?hd (cs := #[.int .i64 0, .int .i64 0, .int .i64 0, .int .i64 0]) (t := 88) ?hr ?_; (case hd => rfl); (case hg => rfl); (case hr => first | (go_simp; done) | (go_simp; rfl))
  intro gb208 hg w64 hbox hb
  have n0_ := mk_ (Kd.R_below (Kd.ur_ HO192.out) hb)
  have n1_ := mk_ (Kd.R_below (Kd.ur_ HO200.out) hb)
  have n2_ := mk_ (IsS82.below (by repeat (first | (with_reducible first | exact HI0.out | apply IsS82.alloc | apply IsS82.drewN | apply IsS82.drew | apply IsS82.set_1 | refine IsS82.far ?_ NB0_187.out _) | exact HI0.out)) hb)
  have n3_ := mk_ (blk_below (u_ BK187.out) hb)
  have n4_ := mk_ (KeepBut.trans (by repeat (first | (with_reducible first | exact HK.out | apply KeepBut.set_ | apply keep_drewN | apply keep_drew | apply keep_alloc | refine keep_far ?_ GW187.out _) | exact HK.out)) (KeepBut.of_below hb g none) (.inl rfl))
  have n5_ := mk_ (below_step (by repeat (first | (with_reducible first | exact HB.out | apply na_ | apply nn_ | apply nw_ | refine bs_ ?_ (IsS82.ge HI0.out) | refine bs_ ?_ GE187.out) | exact HB.out)) hb)
  have n6_ := mk_ (hbox)
  have n7_ := mk_ ((by rw [hg]; exact (keep_size (w := w) (g := g) (row := none) (by repeat (first | (with_reducible first | exact HK.out | apply KeepBut.set_ | apply keep_drewN | apply keep_drew | apply keep_alloc | refine keep_far ?_ GW187.out _) | exact HK.out))) : w.heap.size ≤ gb208))
  have n8_ := mk_ ((Nat.le_trans HW0.out (by rw [hg]; exact (keep_size (w := w) (g := g) (row := none) (by repeat (first | (with_reducible first | exact HK.out | apply KeepBut.set_ | apply keep_drewN | apply keep_drew | apply keep_alloc | refine keep_far ?_ GW187.out _) | exact HK.out))) : w.heap.size ≤ gb208) : w0.heap.size ≤ gb208))
  have n9_ := mk_ ((by rw [hg]; exact Nat.ne_of_lt (blk_lt (u_ BK187.out)) : gb187 ≠ gb208))
  have n10_ := mk_ ((by rw [hg]; exact Nat.ne_of_gt (blk_lt (u_ BK187.out)) : gb208 ≠ gb187))
  have n11_ := mk_ ((by rw [hg]; exact Nat.ne_of_lt (IsS82.lt (show IsS82 w0 _ g s0_0 t202 from by repeat (first | (with_reducible first | exact HI0.out | apply IsS82.alloc | apply IsS82.drewN | apply IsS82.drew | apply IsS82.set_1 | refine IsS82.far ?_ NB0_187.out _) | exact HI0.out))) : g ≠ gb208))
  have n12_ := mk_ ((by rw [hg]; exact Nat.ne_of_gt (IsS82.lt (show IsS82 w0 _ g s0_0 t202 from by repeat (first | (with_reducible first | exact HI0.out | apply IsS82.alloc | apply IsS82.drewN | apply IsS82.drew | apply IsS82.set_1 | refine IsS82.far ?_ NB0_187.out _) | exact HI0.out))) : gb208 ≠ g))
  clear HO192
  clear HO200
  clear HI0
  clear BK187
  clear HK
  clear HB
  have HO192 := n0_
  have HO200 := n1_
  have HI0 := n2_
  have BK187 := n3_
  have HK := n4_
  have HB := n5_
  have BK208 := n6_
  have GW208 := n7_
  have GE208 := ge_ n8_.out
  have NB187_208 := nq_ n9_.out
  have NB208_187 := nq_ n10_.out
  have NB0_208 := nq_ n11_.out
  have NB208_0 := nq_ n12_.out
  clear n0_ n1_ n2_ n3_ n4_ n5_ n6_ n7_ n8_ n9_ n10_ n11_ n12_
  clear hb hbox hg
  refine hK.out _ _ trivial (fun hHeld => ?_)
  clear hK K
  refine norm_ (a' := ?_) ?_ ?_
  rotate_left
  ·show Act.put _ (some 7) _ = _
   simp only [Act.put, la_, lz_, ls_, i64_w, i32_w]
   rfl
  refine one_ (i := 9) (N := some 32) #[T_, T_, T_, T_, T_, T_, T_, T_, T_, T_, T_, F_, F_, F_, F_, T_, F_] rfl rfl (one_of HT_.out (by kernel_rfl)) (by decide) (fun K hK => ?_)
  refine goes_ Try.func46 (by kernel_rfl) rfl #[.pointer (some ⟨g, 0, none⟩), .int .i64 3] (by rfl) rfl rfl (by (try simp only [lm_, lo_, ln_]); first | done | rfl | (simp only [List.length_drop, List.length_take]; rfl)) ?_
  with_reducible refine (spec_l20Rd_pick.calls k g s0_0 t202 3 t204 t205 w0 _ ?side1 ?side2 A15.out).mono ?_
  (case side1 => repeat (first | (with_reducible first | exact HI0.out | apply IsS82.alloc | apply IsS82.drewN | apply IsS82.drew | apply IsS82.set_1 | refine IsS82.far ?_ NB0_187.out _ | refine IsS82.far ?_ NB0_208.out _) | exact HI0.out))
  (case side2 => repeat (first | (with_reducible first | exact HB.out | apply na_ | apply nn_ | apply nw_ | refine bs_ ?_ (IsS82.ge HI0.out) | refine bs_ ?_ GE187.out | refine bs_ ?_ GE208.out) | exact HB.out))
  rintro e w65 ⟨rfl, hi, hb, hk⟩
  refine ⟨_, rfl, ?_⟩
  have n0_ := mk_ (KeepBut.blk hk (g' := gb187) (o := .cells #[.int .i64 0, .int .i64 0, .int .i64 0, .int .i64 0] 88 (0, 0)) (u_ BK187.out) NB187_0.out (by simp))
  have n1_ := mk_ (Kd.R_mono (Kd.R_keep (IsS82.apart (show IsS82 w0 _ g s0_0 t202 from by repeat (first | (with_reducible first | exact HI0.out | apply IsS82.alloc | apply IsS82.drewN | apply IsS82.drew | apply IsS82.set_1 | refine IsS82.far ?_ NB0_187.out _ | refine IsS82.far ?_ NB0_208.out _) | exact HI0.out)) (Kd.ur_ HO192.out) (by decide)) hk (fun _ h => h.2)) (fun _ h => h.1))
  have n2_ := mk_ (Kd.R_mono (Kd.R_keep (IsS82.apart (show IsS82 w0 _ g s0_0 t202 from by repeat (first | (with_reducible first | exact HI0.out | apply IsS82.alloc | apply IsS82.drewN | apply IsS82.drew | apply IsS82.set_1 | refine IsS82.far ?_ NB0_187.out _ | refine IsS82.far ?_ NB0_208.out _) | exact HI0.out)) (Kd.ur_ HO200.out) (by decide)) hk (fun _ h => h.2)) (fun _ h => h.1))
  have n3_ := mk_ (KeepBut.blk hk (g' := gb208) (o := .cells #[.int .i64 0, .int .i64 0, .int .i64 0, .int .i64 0] 88 (0, 0)) (u_ BK208.out) NB208_0.out (by simp))
  have n4_ := mk_ (KeepBut.trans (by repeat (first | (with_reducible first | exact HK.out | apply KeepBut.set_ | apply keep_drewN | apply keep_drew | apply keep_alloc | refine keep_far ?_ GW187.out _ | refine keep_far ?_ GW208.out _) | exact HK.out)) hk (.inl rfl))
  have n5_ := mk_ (hb)
  have n6_ := mk_ (hi)
  clear BK187
  clear HO192
  clear HO200
  clear BK208
  clear HK
  clear HB
  clear HI0
  have BK187 := n0_
  have HO192 := n1_
  have HO200 := n2_
  have BK208 := n3_
  have HK := n4_
  have HB := n5_
  have HI0 := n6_
  clear n0_ n1_ n2_ n3_ n4_ n5_ n6_
  (try clear hb)
  (try clear hb2)
  (try clear hk)
  (try clear hi)
  refine hK.out _ _ trivial (fun hHeld => ?_)
  clear hK K
  refine norm_ (a' := ?_) ?_ ?_
  rotate_left
  ·show Act.put _ (some 32) _ = _
   simp only [Act.put, la_, lz_, ls_, i64_w, i32_w]
   rfl
  refine one_ (i := 11) (N := some 34) #[T_, T_, T_, T_, T_, T_, T_, T_, T_, T_, T_, T_, F_, F_, F_, T_, F_] rfl rfl (one_of HT_.out (by kernel_rfl)) (by decide) (fun K hK => ?_)
  refine goes_ Try.func46 (by kernel_rfl) rfl #[.pointer (some ⟨g, 0, none⟩), .int .i64 3] (by rfl) rfl rfl (by (try simp only [lm_, lo_, ln_]); first | done | rfl | (simp only [List.length_drop, List.length_take]; rfl)) ?_
  with_reducible refine (spec_l20Rd_pick.calls k g s0_0 t205 3 t206 t207 w0 _ ?side1 ?side2 A16.out).mono ?_
  (case side1 => repeat (first | (with_reducible first | exact HI0.out | apply IsS82.alloc | apply IsS82.drewN | apply IsS82.drew | apply IsS82.set_1 | refine IsS82.far ?_ NB0_187.out _ | refine IsS82.far ?_ NB0_208.out _) | exact HI0.out))
  (case side2 => repeat (first | (with_reducible first | exact HB.out | apply na_ | apply nn_ | apply nw_ | refine bs_ ?_ (IsS82.ge HI0.out) | refine bs_ ?_ GE187.out | refine bs_ ?_ GE208.out) | exact HB.out))
  rintro e w66 ⟨rfl, hi, hb, hk⟩
  refine ⟨_, rfl, ?_⟩
  have n0_ := mk_ (KeepBut.blk hk (g' := gb187) (o := .cells #[.int .i64 0, .int .i64 0, .int .i64 0, .int .i64 0] 88 (0, 0)) (u_ BK187.out) NB187_0.out (by simp))
  have n1_ := mk_ (Kd.R_mono (Kd.R_keep (IsS82.apart (show IsS82 w0 _ g s0_0 t205 from by repeat (first | (with_reducible first | exact HI0.out | apply IsS82.alloc | apply IsS82.drewN | apply IsS82.drew | apply IsS82.set_1 | refine IsS82.far ?_ NB0_187.out _ | refine IsS82.far ?_ NB0_208.out _) | exact HI0.out)) (Kd.ur_ HO192.out) (by decide)) hk (fun _ h => h.2)) (fun _ h => h.1))
  have n2_ := mk_ (Kd.R_mono (Kd.R_keep (IsS82.apart (show IsS82 w0 _ g s0_0 t205 from by repeat (first | (with_reducible first | exact HI0.out | apply IsS82.alloc | apply IsS82.drewN | apply IsS82.drew | apply IsS82.set_1 | refine IsS82.far ?_ NB0_187.out _ | refine IsS82.far ?_ NB0_208.out _) | exact HI0.out)) (Kd.ur_ HO200.out) (by decide)) hk (fun _ h => h.2)) (fun _ h => h.1))
  have n3_ := mk_ (KeepBut.blk hk (g' := gb208) (o := .cells #[.int .i64 0, .int .i64 0, .int .i64 0, .int .i64 0] 88 (0, 0)) (u_ BK208.out) NB208_0.out (by simp))
  have n4_ := mk_ (KeepBut.trans (by repeat (first | (with_reducible first | exact HK.out | apply KeepBut.set_ | apply keep_drewN | apply keep_drew | apply keep_alloc | refine keep_far ?_ GW187.out _ | refine keep_far ?_ GW208.out _) | exact HK.out)) hk (.inl rfl))
  have n5_ := mk_ (hb)
  have n6_ := mk_ (hi)
  clear BK187
  clear HO192
  clear HO200
  clear BK208
  clear HK
  clear HB
  clear HI0
  have BK187 := n0_
  have HO192 := n1_
  have HO200 := n2_
  have BK208 := n3_
  have HK := n4_
  have HB := n5_
  have HI0 := n6_
  clear n0_ n1_ n2_ n3_ n4_ n5_ n6_
  (try clear hb)
  (try clear hb2)
  (try clear hk)
  (try clear hi)
  refine hK.out _ _ trivial (fun hHeld => ?_)
  clear hK K
  refine norm_ (a' := ?_) ?_ ?_
  rotate_left
  ·show Act.put _ (some 34) _ = _
   simp only [Act.put, la_, lz_, ls_, i64_w, i32_w]
   rfl
  refine pure_ (i := 12) (N := some 35) (v := ?_) (a' := ?_) #[T_, T_, T_, T_, T_, T_, T_, T_, T_, T_, T_, T_, T_, F_, F_, T_, F_] rfl rfl (any_of HT_.out (by kernel_rfl)) (fun _ _ _ h => h) (Or.inl ⟨by rfl, ?_⟩) ?_ ?_
  rotate_left
  ·intro w'
   go_simp
   with_reducible rfl
  rotate_left
  ·simp only [Act.put, la_, lz_, ls_, i64_w, i32_w]
   rfl
  refine pure_ (i := 13) (N := some 36) (v := ?_) (a' := ?_) #[T_, T_, T_, T_, T_, T_, T_, T_, T_, T_, T_, T_, T_, T_, F_, T_, F_] rfl rfl (any_of HT_.out (by kernel_rfl)) (fun _ _ _ h => h) (Or.inl ⟨by rfl, ?_⟩) ?_ ?_
  rotate_left
  ·intro w'
   go_simp
   with_reducible rfl
  rotate_left
  ·simp only [Act.put, la_, lz_, ls_, i64_w, i32_w]
   rfl
  refine pure_ (i := 14) (N := some 37) (v := ?_) (a' := ?_) #[T_, T_, T_, T_, T_, T_, T_, T_, T_, T_, T_, T_, T_, T_, T_, T_, F_] rfl rfl (any_of HT_.out (by kernel_rfl)) (fun _ _ _ h => h) (Or.inl ⟨by rfl, ?_⟩) ?_ ?_
  rotate_left
  ·intro w'
   go_simp
   with_reducible rfl
  rotate_left
  ·simp only [Act.put, la_, lz_, ls_, i64_w, i32_w]
   rfl
  exact norm_ (by simp only [putAll, Act.put, la_, lz_, ls_]) (hCont (gb208) _ ⟨(by (with_reducible repeat (first | apply Kd.R_alloc | apply Kd.R_drewN | apply Kd.R_drew)); exact Kd.R_mono HO192.out (fun _ hk => hk.2)), (by (with_reducible repeat (first | apply Kd.R_alloc | apply Kd.R_drewN | apply Kd.R_drew)); exact Kd.R_mono HO200.out (fun _ hk => hk.2)), (u_ BK187.out), (u_ BK208.out), GW208.out, GE208.out, NB0_208.out, NB208_0.out, NB187_208.out, NB208_187.out, (by repeat (first | (with_reducible first | exact HI0.out | apply IsS82.alloc | apply IsS82.drewN | apply IsS82.drew | apply IsS82.set_1 | refine IsS82.far ?_ NB0_187.out _ | refine IsS82.far ?_ NB0_208.out _) | exact HI0.out)), (by repeat (first | (with_reducible first | exact HK.out | apply KeepBut.set_ | apply keep_drewN | apply keep_drew | apply keep_alloc | refine keep_far ?_ GW187.out _ | refine keep_far ?_ GW208.out _) | exact HK.out)), (by repeat (first | (with_reducible first | exact HB.out | apply na_ | apply nn_ | apply nw_ | refine bs_ ?_ (IsS82.ge HI0.out) | refine bs_ ?_ GE187.out | refine bs_ ?_ GE208.out) | exact HB.out))⟩)
 rintro gb208 w67 ⟨h0_, h1_, h2_, h3_, h4_, h5_, h6_, h7_, h8_, h9_, h10_, h11_, h12_⟩
 have n0_ : Aside0 (Kd.R (Kd.int .i64) 3 w67 w.heap.size (fun k_ => some k_ ≠ (.slice (some ad203) y198.length co62 : Value).ownBlock) (.slice (some ad195) y190.length co57) y190) := ⟨h0_⟩
 have n1_ : Aside0 (Kd.R (Kd.int .i64) 3 w67 w.heap.size (fun k_ => some k_ ≠ (.slice (some ad195) y190.length co57 : Value).ownBlock) (.slice (some ad203) y198.length co62) y198) := ⟨h1_⟩
 have n2_ : Aside0 (w67.heap[gb187]? = some (.cells #[.int .i64 0, .int .i64 0, .int .i64 0, .int .i64 0] 88 (0, 0))) := ⟨h2_⟩
 have n3_ : Aside0 (w67.heap[gb208]? = some (.cells #[.int .i64 0, .int .i64 0, .int .i64 0, .int .i64 0] 88 (0, 0))) := ⟨h3_⟩
 have n4_ : Aside0 (w.heap.size ≤ gb208) := ⟨h4_⟩
 have n5_ : Aside0 (w0.heap.size ≤ gb208) := ⟨h5_⟩
 have n6_ : Aside0 (g ≠ gb208) := ⟨h6_⟩
 have n7_ : Aside0 (gb208 ≠ g) := ⟨h7_⟩
 have n8_ : Aside0 (gb187 ≠ gb208) := ⟨h8_⟩
 have n9_ : Aside0 (gb208 ≠ gb187) := ⟨h9_⟩
 have n10_ : Aside0 (IsS82 w0 w67 g s0_0 t207) := ⟨h10_⟩
 have n11_ : Aside0 (KeepBut w w67 g none) := ⟨h11_⟩
 have n12_ : Aside0 (Below w0.heap.size w0 w67) := ⟨h12_⟩
 clear HO192
 clear HO200
 clear BK187
 clear HI0
 clear HK
 clear HB
 clear h0_ h1_ h2_ h3_ h4_ h5_ h6_ h7_ h8_ h9_ h10_ h11_ h12_
 have HO192 := n0_
 have HO200 := n1_
 have BK187 := n2_
 have BK208 := n3_
 have GW208 := n4_
 have GE208 := ge_ n5_.out
 have NB0_208 := nq_ n6_.out
 have NB208_0 := nq_ n7_.out
 have NB187_208 := nq_ n8_.out
 have NB208_187 := nq_ n9_.out
 have HI0 := n10_
 have HK := n11_
 have HB := n12_
 clear n0_ n1_ n2_ n3_ n4_ n5_ n6_ n7_ n8_ n9_ n10_ n11_ n12_
 have hHeld := trivial
 refine norm_ (a' := ?_) ?_ ?_
 rotate_left
 ·simp only [putAll, Act.put, la_, lz_, ls_]
  rfl
 refine one_ (i := 16) (N := none) #[T_, T_, T_, T_, T_, T_, T_, T_, T_, T_, T_, T_, T_, T_, T_, T_, T_] rfl rfl (one_of HT_.out (by kernel_rfl)) (by decide) (fun K hK => ?_)
 have hs68 : w67.cell? ⟨gb208, 0, none⟩ = some (.int .i64 0) := (blk_cell BK208.out 0).trans rfl
 have hfs68 := blk_frozen BK208.out 0
 have hns68_0 := NB187_208.out
 have hms68_0 := NB208_187.out
 have hs69 : w67.cell? ⟨gb208, 1, none⟩ = some (.int .i64 0) := (blk_cell BK208.out 1).trans rfl
 have hfs69 := blk_frozen BK208.out 1
 have hns69_0 := NB187_208.out
 have hms69_0 := NB208_187.out
 have hs70 : w67.cell? ⟨gb208, 2, none⟩ = some (.int .i64 0) := (blk_cell BK208.out 2).trans rfl
 have hfs70 := blk_frozen BK208.out 2
 have hns70_0 := NB187_208.out
 have hms70_0 := NB208_187.out
 have hs71 : w67.cell? ⟨gb208, 3, none⟩ = some (.int .i64 0) := (blk_cell BK208.out 3).trans rfl
 have hfs71 := blk_frozen BK208.out 3
 have hns71_0 := NB187_208.out
 have hms71_0 := NB208_187.out
 refine skip_ (w1 := ?_) (by rfl) rfl ?_ ?_
 rotate_left
 ·go_simp
  rfl
 refine hK.out _ _ trivial (fun hHeld => ?_)
 clear hK K
 refine done_ (done_of HT_.out (by kernel_rfl)) ?_
 try go_wp2_with (first | ((with_reducible refine gate_callee (f := 65) rfl ?_); refine goesL_ (some 40) rfl rfl Try.func65 (by kernel_rfl) rfl #[.pointer (some ⟨g, 0, none⟩), .int .i64 a1] rfl (by (try simp only [lm_, lo_, ln_]); first | done | rfl | (simp only [List.length_drop, List.length_take]; rfl)) ?_; (with_reducible refine (spec_l20Rd_odd.calls k g s0_0 t207 a1 true t210 w0 _ ?side1 ?side2 A17.out).mono ?_); (case side1 => repeat (first | (with_reducible first | exact HI0.out | apply IsS82.alloc | apply IsS82.drewN | apply IsS82.drew | apply IsS82.set_1 | refine IsS82.far ?_ NB0_187.out _ | refine IsS82.far ?_ NB0_208.out _) | exact HI0.out)); (case side2 => repeat (first | (with_reducible first | exact HB.out | apply na_ | apply nn_ | apply nw_ | refine bs_ ?_ (IsS82.ge HI0.out) | refine bs_ ?_ GE187.out | refine bs_ ?_ GE208.out) | exact HB.out)); rintro e w72 ⟨rfl, hi, hb, hk⟩; refine ⟨_, rfl, ?_⟩; have n0_ := mk_ (KeepBut.blk hk (g' := gb187) (o := .cells #[.int .i64 0, .int .i64 0, .int .i64 0, .int .i64 0] 88 (0, 0)) (uf_ BK187.out) NB187_0.out (by simp)); have n1_ := mk_ (Kd.R_mono (Kd.R_keep (IsS82.apart (show IsS82 w0 _ g s0_0 t207 from by repeat (first | (with_reducible first | exact HI0.out | apply IsS82.alloc | apply IsS82.drewN | apply IsS82.drew | apply IsS82.set_1 | refine IsS82.far ?_ NB0_187.out _ | refine IsS82.far ?_ NB0_208.out _) | exact HI0.out)) (by (with_reducible repeat (first | apply Kd.R_alloc | apply Kd.R_drewN | apply Kd.R_drew)); exact (Kd.R_mono (Kd.R_far (p := ⟨gb208, 3, none⟩) (Kd.R_far (p := ⟨gb208, 2, none⟩) (Kd.R_far (p := ⟨gb208, 1, none⟩) (Kd.R_far (p := ⟨gb208, 0, none⟩) (Kd.R_types HO192.out BK208.out (by decide)) (fun _ hk => hk.2) (.int .i64 (wrap64 ((rd y198 t201) - (Int.tmod (rd y198 t201) (ji13)))))) (fun _ hk => hk.2) (.int .i64 (rd y190 t193))) (fun _ hk => hk.2) (.int .i64 t204)) (fun _ hk => hk.2) (.int .i64 (wrap64 (4 + (wrap64 (t206 * 6)))))) (fun _ h_ => by first | exact h_.1 | simp only [h_, ne_eq, not_false_eq_true, and_self]))) (by decide)) hk (fun _ h => h.2)) (fun _ h => h.1)); have n2_ := mk_ (Kd.R_mono (Kd.R_keep (IsS82.apart (show IsS82 w0 _ g s0_0 t207 from by repeat (first | (with_reducible first | exact HI0.out | apply IsS82.alloc | apply IsS82.drewN | apply IsS82.drew | apply IsS82.set_1 | refine IsS82.far ?_ NB0_187.out _ | refine IsS82.far ?_ NB0_208.out _) | exact HI0.out)) (by (with_reducible repeat (first | apply Kd.R_alloc | apply Kd.R_drewN | apply Kd.R_drew)); exact (Kd.R_mono (Kd.R_far (p := ⟨gb208, 3, none⟩) (Kd.R_far (p := ⟨gb208, 2, none⟩) (Kd.R_far (p := ⟨gb208, 1, none⟩) (Kd.R_far (p := ⟨gb208, 0, none⟩) (Kd.R_types HO200.out BK208.out (by decide)) (fun _ hk => hk.2) (.int .i64 (wrap64 ((rd y198 t201) - (Int.tmod (rd y198 t201) (ji13)))))) (fun _ hk => hk.2) (.int .i64 (rd y190 t193))) (fun _ hk => hk.2) (.int .i64 t204)) (fun _ hk => hk.2) (.int .i64 (wrap64 (4 + (wrap64 (t206 * 6)))))) (fun _ h_ => by first | exact h_.1 | simp only [h_, ne_eq, not_false_eq_true, and_self]))) (by decide)) hk (fun _ h => h.2)) (fun _ h => h.1)); have n3_ := mk_ (KeepBut.blk hk (g' := gb208) (o := .cells #[.int .i64 (wrap64 ((rd y198 t201) - (Int.tmod (rd y198 t201) (ji13)))), .int .i64 (rd y190 t193), .int .i64 t204, .int .i64 (wrap64 (4 + (wrap64 (t206 * 6))))] 88 (0, 0)) (by (with_reducible repeat (first | refine bn_ ?_ _ | refine bw_ ?_ | refine ba_ ?_ _)); refine blk_put (cs := #[.int .i64 (wrap64 ((rd y198 t201) - (Int.tmod (rd y198 t201) (ji13)))), .int .i64 (rd y190 t193), .int .i64 t204, .int .i64 0]) ?_ 3 _ rfl; (with_reducible repeat (first | refine bn_ ?_ _ | refine bw_ ?_ | refine ba_ ?_ _)); refine blk_put (cs := #[.int .i64 (wrap64 ((rd y198 t201) - (Int.tmod (rd y198 t201) (ji13)))), .int .i64 (rd y190 t193), .int .i64 0, .int .i64 0]) ?_ 2 _ rfl; (with_reducible repeat (first | refine bn_ ?_ _ | refine bw_ ?_ | refine ba_ ?_ _)); refine blk_put (cs := #[.int .i64 (wrap64 ((rd y198 t201) - (Int.tmod (rd y198 t201) (ji13)))), .int .i64 0, .int .i64 0, .int .i64 0]) ?_ 1 _ rfl; (with_reducible repeat (first | refine bn_ ?_ _ | refine bw_ ?_ | refine ba_ ?_ _)); refine blk_put (cs := #[.int .i64 0, .int .i64 0, .int .i64 0, .int .i64 0]) ?_ 0 _ rfl; (with_reducible repeat (first | refine bn_ ?_ _ | refine bw_ ?_ | refine ba_ ?_ _)); exact BK208.out) NB208_0.out (by simp)); have n4_ := mk_ (KeepBut.trans (by repeat (first | (with_reducible first | exact HK.out | apply KeepBut.set_ | apply keep_drewN | apply keep_drew | apply keep_alloc | refine keep_far ?_ GW187.out _ | refine keep_far ?_ GW208.out _) | exact HK.out)) hk (.inl rfl)); have n5_ := mk_ (hb); have n6_ := mk_ (hi); clear BK187; clear HO192; clear HO200; clear BK208; clear HK; clear HB; clear HI0; have BK187 := n0_; have HO192 := n1_; have HO200 := n2_; have BK208 := n3_; have HK := n4_; have HB := n5_; have HI0 := n6_; clear n0_ n1_ n2_ n3_ n4_ n5_ n6_; (try clear hb); (try clear hb2); (try clear hk); (try clear hi)) | ((with_reducible refine gate_callee (f := 46) rfl ?_); have hA_ := A19.out; refine goesL_ (some 42) rfl rfl Try.func46 (by kernel_rfl) rfl #[.pointer (some ⟨g, 0, none⟩), .int .i64 3] rfl (by (try simp only [lm_, lo_, ln_]); first | done | rfl | (simp only [List.length_drop, List.length_take]; rfl)) ?_; (with_reducible refine (spec_l20Rd_pick.calls k g s0_0 t210 3 t211 t212 w0 _ ?side1 ?side2 A19.out).mono ?_); (case side1 => repeat (first | (with_reducible first | exact HI0.out | apply IsS82.alloc | apply IsS82.drewN | apply IsS82.drew | apply IsS82.set_1 | refine IsS82.far ?_ NB0_187.out _ | refine IsS82.far ?_ NB0_208.out _) | exact HI0.out)); (case side2 => repeat (first | (with_reducible first | exact HB.out | apply na_ | apply nn_ | apply nw_ | refine bs_ ?_ (IsS82.ge HI0.out) | refine bs_ ?_ GE187.out | refine bs_ ?_ GE208.out) | exact HB.out)); rintro e w73 ⟨rfl, hi, hb, hk⟩; refine ⟨_, rfl, ?_⟩; have n0_ := mk_ (KeepBut.blk hk (g' := gb187) (o := .cells #[.int .i64 0, .int .i64 0, .int .i64 0, .int .i64 0] 88 (0, 0)) (u_ BK187.out) NB187_0.out (by simp)); have n1_ := mk_ (Kd.R_mono (Kd.R_keep (IsS82.apart (show IsS82 w0 _ g s0_0 t210 from by repeat (first | (with_reducible first | exact HI0.out | apply IsS82.alloc | apply IsS82.drewN | apply IsS82.drew | apply IsS82.set_1 | refine IsS82.far ?_ NB0_187.out _ | refine IsS82.far ?_ NB0_208.out _) | exact HI0.out)) (Kd.ur_ HO192.out) (by decide)) hk (fun _ h => h.2)) (fun _ h => h.1)); have n2_ := mk_ (Kd.R_mono (Kd.R_keep (IsS82.apart (show IsS82 w0 _ g s0_0 t210 from by repeat (first | (with_reducible first | exact HI0.out | apply IsS82.alloc | apply IsS82.drewN | apply IsS82.drew | apply IsS82.set_1 | refine IsS82.far ?_ NB0_187.out _ | refine IsS82.far ?_ NB0_208.out _) | exact HI0.out)) (Kd.ur_ HO200.out) (by decide)) hk (fun _ h => h.2)) (fun _ h => h.1)); have n3_ := mk_ (KeepBut.blk hk (g' := gb208) (o := .cells #[.int .i64 (wrap64 ((rd y198 t201) - (Int.tmod (rd y198 t201) (ji13)))), .int .i64 (rd y190 t193), .int .i64 t204, .int .i64 (wrap64 (4 + (wrap64 (t206 * 6))))] 88 (0, 0)) (u_ BK208.out) NB208_0.out (by simp)); have n4_ := mk_ (KeepBut.trans (by repeat (first | (with_reducible first | exact HK.out | apply KeepBut.set_ | apply keep_drewN | apply keep_drew | apply keep_alloc | refine keep_far ?_ GW187.out _ | refine keep_far ?_ GW208.out _) | exact HK.out)) hk (.inl rfl)); have n5_ := mk_ (hb); have n6_ := mk_ (hi); clear BK187; clear HO192; clear HO200; clear BK208; clear HK; clear HB; clear HI0; have BK187 := n0_; have HO192 := n1_; have HO200 := n2_; have BK208 := n3_; have HK := n4_; have HB := n5_; have HI0 := n6_; clear n0_ n1_ n2_ n3_ n4_ n5_ n6_; (try clear hb); (try clear hb2); (try clear hk); (try clear hi); clear hA_ A19) | ((with_reducible refine gate_callee (f := 46) rfl ?_); have hA_ := A51.out; refine goesL_ (some 57) rfl rfl Try.func46 (by kernel_rfl) rfl #[.pointer (some ⟨g, 0, none⟩), .int .i64 2] rfl (by (try simp only [lm_, lo_, ln_]); first | done | rfl | (simp only [List.length_drop, List.length_take]; rfl)) ?_; (with_reducible refine (spec_l20Rd_pick.calls k g s0_0 t212 2 t215 t216 w0 _ ?side1 ?side2 A51.out).mono ?_); (case side1 => repeat (first | (with_reducible first | exact HI0.out | apply IsS82.alloc | apply IsS82.drewN | apply IsS82.drew | apply IsS82.set_1 | refine IsS82.far ?_ NB0_187.out _ | refine IsS82.far ?_ NB0_208.out _) | exact HI0.out)); (case side2 => repeat (first | (with_reducible first | exact HB.out | apply na_ | apply nn_ | apply nw_ | refine bs_ ?_ (IsS82.ge HI0.out) | refine bs_ ?_ GE187.out | refine bs_ ?_ GE208.out) | exact HB.out)); rintro e w74 ⟨rfl, hi, hb, hk⟩; refine ⟨_, rfl, ?_⟩; have n0_ := mk_ (KeepBut.blk hk (g' := gb187) (o := .cells #[.int .i64 0, .int .i64 0, .int .i64 0, .int .i64 0] 88 (0, 0)) (u_ BK187.out) NB187_0.out (by simp)); have n1_ := mk_ (Kd.R_mono (Kd.R_keep (IsS82.apart (show IsS82 w0 _ g s0_0 t212 from by repeat (first | (with_reducible first | exact HI0.out | apply IsS82.alloc | apply IsS82.drewN | apply IsS82.drew | apply IsS82.set_1 | refine IsS82.far ?_ NB0_187.out _ | refine IsS82.far ?_ NB0_208.out _) | exact HI0.out)) (Kd.ur_ HO192.out) (by decide)) hk (fun _ h => h.2)) (fun _ h => h.1)); have n2_ := mk_ (Kd.R_mono (Kd.R_keep (IsS82.apart (show IsS82 w0 _ g s0_0 t212 from by repeat (first | (with_reducible first | exact HI0.out | apply IsS82.alloc | apply IsS82.drewN | apply IsS82.drew | apply IsS82.set_1 | refine IsS82.far ?_ NB0_187.out _ | refine IsS82.far ?_ NB0_208.out _) | exact HI0.out)) (Kd.ur_ HO200.out) (by decide)) hk (fun _ h => h.2)) (fun _ h => h.1)); have n3_ := mk_ (KeepBut.blk hk (g' := gb208) (o := .cells #[.int .i64 (wrap64 ((rd y198 t201) - (Int.tmod (rd y198 t201) (ji13)))), .int .i64 (rd y190 t193), .int .i64 t204, .int .i64 (wrap64 (4 + (wrap64 (t206 * 6))))] 88 (0, 0)) (u_ BK208.out) NB208_0.out (by simp)); have n4_ := mk_ (KeepBut.trans (by repeat (first | (with_reducible first | exact HK.out | apply KeepBut.set_ | apply keep_drewN | apply keep_drew | apply keep_alloc | refine keep_far ?_ GW187.out _ | refine keep_far ?_ GW208.out _) | exact HK.out)) hk (.inl rfl)); have n5_ := mk_ (hb); have n6_ := mk_ (hi); clear BK187; clear HO192; clear HO200; clear BK208; clear HK; clear HB; clear HI0; have BK187 := n0_; have HO192 := n1_; have HO200 := n2_; have BK208 := n3_; have HK := n4_; have HB := n5_; have HI0 := n6_; clear n0_ n1_ n2_ n3_ n4_ n5_ n6_; (try clear hb); (try clear hb2); (try clear hk); (try clear hi); have hnb75 := NB208_187.out; have hnc75 := NB187_208.out; have hnb76 := NB208_0.out; have hnc76 := NB0_208.out; obtain ⟨hcz77_0, hcz77_1, hcz77_2, hcz77_3, hfz77_0, hfz77_1, hfz77_2, hfz77_3⟩ := cells4_ BK208.out; have hnb78 := NB187_0.out; have hnc78 := NB0_187.out; obtain ⟨hcz79_0, hcz79_1, hcz79_2, hcz79_3, hfz79_0, hfz79_1, hfz79_2, hfz79_3⟩ := cells4_ BK187.out; clear hA_ A51))
 refine bodyPost_ret (results_cell_row rfl _ _ gb187 88 #[.int .i64 (wrap64 ((rd y198 t201) - (Int.tmod (rd y198 t201) (ji13)))), .int .i64 (rd y190 t193), .int .i64 t204, .int .i64 (wrap64 (t215 * 49))] (0, 0) _ rfl (by (with_reducible repeat (first | refine bn_ ?_ _ | refine bw_ ?_ | refine ba_ ?_ _)); refine blk_put (cs := #[.int .i64 (wrap64 ((rd y198 t201) - (Int.tmod (rd y198 t201) (ji13)))), .int .i64 (rd y190 t193), .int .i64 t204, .int .i64 0]) ?_ 3 _ rfl; (with_reducible repeat (first | refine bn_ ?_ _ | refine bw_ ?_ | refine ba_ ?_ _)); refine blk_put (cs := #[.int .i64 (wrap64 ((rd y198 t201) - (Int.tmod (rd y198 t201) (ji13)))), .int .i64 (rd y190 t193), .int .i64 0, .int .i64 0]) ?_ 2 _ rfl; (with_reducible repeat (first | refine bn_ ?_ _ | refine bw_ ?_ | refine ba_ ?_ _)); refine blk_put (cs := #[.int .i64 (wrap64 ((rd y198 t201) - (Int.tmod (rd y198 t201) (ji13)))), .int .i64 0, .int .i64 0, .int .i64 0]) ?_ 1 _ rfl; (with_reducible repeat (first | refine bn_ ?_ _ | refine bw_ ?_ | refine ba_ ?_ _)); refine blk_put (cs := #[.int .i64 0, .int .i64 0, .int .i64 0, .int .i64 0]) ?_ 0 _ rfl; (with_reducible repeat (first | refine bn_ ?_ _ | refine bw_ ?_ | refine ba_ ?_ _)); refine blk_far ?_ NB187_208.out _; (with_reducible repeat (first | refine bn_ ?_ _ | refine bw_ ?_ | refine ba_ ?_ _)); exact BK187.out) Try.underlying88 rfl (by kernel_rfl)) rfl ?_
 exact ⟨by first | rfl | (simp [errW_none, errW_some] <;> rfl) | (simp only [← hji11, ← hji13]; first | rfl | (simp [errW_none, errW_some] <;> rfl)) | (simp [*, errW_none, errW_some] <;> rfl), by repeat (first | (with_reducible first | exact HI0.out | apply IsS82.alloc | apply IsS82.drewN | apply IsS82.drew | apply IsS82.set_1 | refine IsS82.far ?_ NB0_187.out _ | refine IsS82.far ?_ NB0_208.out _) | exact HI0.out), by repeat (first | (with_reducible first | exact HB.out | apply na_ | apply nn_ | apply nw_ | refine bs_ ?_ (IsS82.ge HI0.out) | refine bs_ ?_ GE187.out | refine bs_ ?_ GE208.out) | exact HB.out), by repeat (first | (with_reducible first | exact HK.out | apply KeepBut.set_ | apply keep_drewN | apply keep_drew | apply keep_alloc | refine keep_far ?_ GW187.out _ | refine keep_far ?_ GW208.out _) | exact HK.out)⟩

end Go.Proofs.Ytfcocnhkimbpbaa.MFnStationOk
