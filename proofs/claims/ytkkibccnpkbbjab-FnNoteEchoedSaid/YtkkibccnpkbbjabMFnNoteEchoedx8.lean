/- Functions that the law FnNoteEchoed reaches, each with the proof that the machine's call comes to just its answer; no conditions but those that each theorem states. Printed by a program of this session over the kit's print. -/
import Derived.Test.YtkkibccnpkbbjabMFnNoteEchoedx0
import Derived.Test.YtkkibccnpkbbjabMFnNoteEchoedx1
import Derived.Test.YtkkibccnpkbbjabMFnNoteEchoedx7
namespace Go.Proofs.Ytkkibccnpkbbjab.MFnNoteEchoed
open Go.RowKit Go.Proofs.YtkkibccnpkbbjabV.PrintWords Go.Proofs.YtkkibccnpkbbjabV.PrintLast Go.Proofs.YtkkibccnpkbbjabV.PrintMore
attribute [local go_sem] max2_int min2_int max_two min_two max_three min_three max_four min_four   -- for this text's walks alone
set_option linter.unusedVariables false
set_option linter.unusedSimpArgs false

/-! ### spec_NoteFrom: function 59 -/
def spec_NoteFrom.f (k : Nat) (l0 : List Int) : Option (Int × Int × List Int × Bool) := if (l0.length : Int) < 4 then (some (0, 0, ([] : List Int), false)) else (if 0 < (l0.length : Int) then ((spec_NumberAt.f k l0 1 2).bind fun t370 => ((some (([] : List Int) : List Int)).bind fun y371 => (if 4 ≤ (l0.length : Int) then (if y371.length + (l0.drop 4).length < 140737488355328 then ((some (y371 ++ (l0.drop 4) : List Int)).bind fun y375 => ((spec_NoteOk.f (wrap64 (rd l0 0)) t370 y375).bind fun t379 => (if t379 = true then (if 3 < (l0.length : Int) then (if (wrap64 (rd l0 3)) = (y375.length : Int) then (some (wrap64 (rd l0 0), t370, y375, true)) else (some (0, 0, ([] : List Int), false))) else (none)) else (some (0, 0, ([] : List Int), false))))) else (none)) else (none)))) else (none))
theorem spec_NoteFrom.mono : ∀ a0 k, LeO (spec_NoteFrom.f k a0) (spec_NoteFrom.f (k + 1) a0) := by
 intro a0 k
 unfold spec_NoteFrom.f
 repeat' first
   | (with_reducible exact spec_NumberAt.mono _ _ _ _)
   | (with_reducible exact LeO.refl _)
   | (with_reducible exact LeO.none _)
   | (with_reducible refine LeO.ite ?_ ?_)
   | (with_reducible refine LeO.bind ?_ (fun _ => ?_))
   | exact spec_NumberAt.mono _ _ _ _
   | exact LeO.none _
   | refine LeO.ite ?_ ?_
   | refine LeO.bind ?_ (fun _ => ?_)
def spec_NoteFrom.T3 : Bool × List (List Nat × List Nat) := (true, [([], []), ([0], [0]), ([1], [1]), ([2], [2]), ([], []), ([4], [4]), ([], []), ([], []), ([7], [7]), ([6, 8, 5], [6, 8]), ([3, 5, 9], [3, 5, 9]), ([], []), ([11, 10, 9, 0, 1, 2, 3, 4, 5, 6, 7, 8, 9, 10, 11], [10, 11])])
def spec_NoteFrom.B3 : List Nat := [0, 1, 3, 7, 0, 16, 0, 0, 128, 496, 1023, 0, 4095]
theorem spec_NoteFrom.tab3 : rtab .any (opsOf Try.f59 3) = spec_NoteFrom.T3 := by kernel_rfl
theorem spec_NoteFrom.bits3 : waitsOk spec_NoteFrom.T3.2 spec_NoteFrom.B3 = true := by kernel_rfl
def spec_NoteFrom.T4 : Bool × List (List Nat × List Nat) := (true, [([], []), ([0], [0]), ([1], [1]), ([2, 1], [2]), ([3], [3]), ([4, 3], [3, 4]), ([5, 3], [3, 5]), ([6, 3], [3, 6]), ([3], [3]), ([8, 3], [3, 8]), ([9, 3], [3, 9]), ([7, 10, 3], [3, 7, 10]), ([3, 11], [3, 11])])
def spec_NoteFrom.B4 : List Nat := [0, 1, 3, 7, 15, 31, 63, 127, 15, 271, 783, 2047, 4095]
theorem spec_NoteFrom.tab4 : rtab .any (opsOf Try.f59 4) = spec_NoteFrom.T4 := by kernel_rfl
theorem spec_NoteFrom.bits4 : waitsOk spec_NoteFrom.T4.2 spec_NoteFrom.B4 = true := by kernel_rfl
set_option maxHeartbeats 8000000 in
set_option maxRecDepth 100000 in
theorem spec_NoteFrom.calls (k : Nat) (A0 : Option Addr) (c0 : Nat) (l0 : List Int) (r1 : Int) (r2 : Int) (r3 : List Int) (r4 : Bool) (w : World) (hr0 : Kd.C (Kd.int .u8) w A0 l0.length l0) (hc0 : l0.length ≤ c0) (h : spec_NoteFrom.f k l0 = some (r1, r2, r3, r4)) :
  Calls Try.prog 59 #[.slice A0 l0.length c0] w fun e w' => ∃ v2_ : Value, e = .returned (.tuple #[.agg #[.int .i64 r1, .int .i64 r2, v2_], .bool r4]) ∧ Kd.R (Kd.int .u8) 5 w' w.heap.size (fun _ => True) v2_ r3 ∧ Below w.heap.size w w' := by
 have hu44 := Try.underlying44
 have HR0 := mk_ hr0
 have HC0 := mk_ hc0
 clear hr0 hc0
 have HB := mk_ (Below.refl w.heap.size w)
 have H := h
 unfold spec_NoteFrom.f at H
 clear h
 by_cases c2 : (l0.length : Int) < 4
 focus
  rw [if_pos c2] at H
  have c2b0 : decide ((l0.length : Int) < 4) = true := decide_eq_true c2
  have c2b1 : decide (l0.length < 4) = true := decide_eq_true (by omega)
  clear c2
  simp only [Option.some.injEq, Prod.mk.injEq] at H
  obtain ⟨rfl, rfl, rfl, rfl⟩ := H
 rotate_left
 focus
  rw [if_neg c2] at H
  have c2b0 : decide ((l0.length : Int) < 4) = false := decide_eq_false c2
  have c2b1 : decide (l0.length < 4) = false := decide_eq_false (by omega)
  clear c2
  by_cases c5 : 0 < (l0.length : Int)
  rotate_left
  ·rw [if_neg c5] at H
   exact absurd H (by simp)
  rw [if_pos c5] at H
  have c5b0 : decide (0 < (l0.length : Int)) = true := decide_eq_true c5
  have c5b1 : decide (0 < l0.length) = true := decide_eq_true (by omega)
  clear c5
  replace H := Option.bind_eq_some_iff.mp H
  obtain ⟨t370, A60, H⟩ := H
  (try dsimp only at H)
  have A6 := mk_ A60
  clear A60
  obtain ⟨y371, hy371⟩ : ∃ y_ : List Int, y_ = (([] : List Int)) := ⟨_, rfl⟩
  replace H : (if 4 ≤ (l0.length : Int) then (if y371.length + (l0.drop 4).length < 140737488355328 then ((some (y371 ++ (l0.drop 4) : List Int)).bind fun y375 => ((spec_NoteOk.f (wrap64 (rd l0 0)) t370 y375).bind fun t379 => (if t379 = true then (if 3 < (l0.length : Int) then (if (wrap64 (rd l0 3)) = (y375.length : Int) then (some (wrap64 (rd l0 0), t370, y375, true)) else (some (0, 0, ([] : List Int), false))) else (none)) else (some (0, 0, ([] : List Int), false))))) else (none)) else (none)) = some (r1, r2, r3, r4) := by first | (rw [hy371]; with_reducible exact H) | (have H2_ := (Option.bind_some _ _).symm.trans H; rw [hy371]; with_reducible exact H2_) | (have H2_ := (Option.bind_some _ _).symm.trans H; with_reducible exact H2_) | with_reducible exact H | (rw [hy371]; exact H) | exact H
  have Ny371 := mk_ hy371
  clear hy371
  by_cases c7 : 4 ≤ (l0.length : Int)
  rotate_left
  ·rw [if_neg c7] at H
   exact absurd H (by simp)
  rw [if_pos c7] at H
  have c7b0 := eq_true c7
  have c7b1 : decide (4 ≤ (l0.length : Int)) = true := decide_eq_true c7
  clear c7
  by_cases c8 : y371.length + (l0.drop 4).length < 140737488355328
  rotate_left
  ·rw [if_neg c8] at H
   exact absurd H (by simp)
  rw [if_pos c8] at H
  have LMc8 := mk_ c8
  clear c8
  obtain ⟨y375, hy375⟩ : ∃ y_ : List Int, y_ = (y371 ++ (l0.drop 4)) := ⟨_, rfl⟩
  replace H : ((spec_NoteOk.f (wrap64 (rd l0 0)) t370 y375).bind fun t379 => (if t379 = true then (if 3 < (l0.length : Int) then (if (wrap64 (rd l0 3)) = (y375.length : Int) then (some (wrap64 (rd l0 0), t370, y375, true)) else (some (0, 0, ([] : List Int), false))) else (none)) else (some (0, 0, ([] : List Int), false)))) = some (r1, r2, r3, r4) := by first | (rw [hy375]; with_reducible exact H) | (have H2_ := (Option.bind_some _ _).symm.trans H; rw [hy375]; with_reducible exact H2_) | (have H2_ := (Option.bind_some _ _).symm.trans H; with_reducible exact H2_) | with_reducible exact H | (rw [hy375]; exact H) | exact H
  have Ny375 := mk_ hy375
  clear hy375
  replace H := Option.bind_eq_some_iff.mp H
  obtain ⟨t379, A90, H⟩ := H
  (try dsimp only at H)
  have A9 := mk_ A90
  clear A90
  by_cases c10 : t379 = true
  rotate_left
  focus
   replace c10 := Bool.eq_false_iff.mpr c10
   subst c10
   rw [if_neg (show ¬ (false = true) by decide)] at H
   simp only [Option.some.injEq, Prod.mk.injEq] at H
   obtain ⟨rfl, rfl, rfl, rfl⟩ := H
  rotate_left
  focus
   subst c10
   rw [if_pos rfl] at H
   by_cases c11 : 3 < (l0.length : Int)
   rotate_left
   ·rw [if_neg c11] at H
    exact absurd H (by simp)
   rw [if_pos c11] at H
   have c11b0 : decide (3 < (l0.length : Int)) = true := decide_eq_true c11
   have c11b1 : decide (3 < l0.length) = true := decide_eq_true (by omega)
   clear c11
   by_cases c12 : (wrap64 (rd l0 3)) = (y375.length : Int)
   rotate_left
   focus
    rw [if_neg c12] at H
    have c12b0 : ((wrap64 (rd l0 3)) == (y375.length : Int)) = false := beq_eq_false_iff_ne.mpr c12
    have c12b1 : ((wrap64 (rd l0 3)) != (y375.length : Int)) = true := bne_iff_ne.mpr c12
    simp only [Option.some.injEq, Prod.mk.injEq] at H
    obtain ⟨rfl, rfl, rfl, rfl⟩ := H
   rotate_left
   focus
    rw [if_pos c12] at H
    have c12b0 : ((wrap64 (rd l0 3)) == (y375.length : Int)) = true := beq_iff_eq.mpr c12
    have c12b1 : ((wrap64 (rd l0 3)) != (y375.length : Int)) = false := bne_eq_false_iff_eq.mpr c12
    clear c12
    simp only [Option.some.injEq, Prod.mk.injEq] at H
    obtain ⟨rfl, rfl, rfl, rfl⟩ := H
   rotate_left
  rotate_left 2
 rotate_left 3
 all_goals
  go_enter Try.func59, Try.ntmps59
 have z28_ := trivial
 rotate_left
 have z29_ := trivial
 rotate_left
 have z29_ := trivial
 rotate_left
 have z29_ := trivial
 rotate_left
 all_goals
  try go_wp2_with (first | (have zz_ := z28_; clear zz_; (with_reducible refine gate_dst (N := 2) rfl ?_); refine box_event ?hg (N := 2) ?hd (cs := #[.int .i64 0, .int .i64 0, .slice none 0 0]) (t := 44) ?hr ?_; (case hd => rfl); (case hg => rfl); (case hr => first | (go_simp; done) | (go_simp; rfl)); intro gb13640 hg w13641 hbox hb; have n0_ := mk_ (below_step (ub_ HB.out) hb); have BK368 := mk_ (hbox); have GW368 := mk_ ((by rw [hg]; exact (below_size (ub_ HB.out)) : w.heap.size ≤ gb13640)); have GE368 := ge_ ((by rw [hg]; exact (below_size (ub_ HB.out)) : w.heap.size ≤ gb13640)); replace HB := n0_; clear n0_; clear hb hbox hg; obtain ⟨_, _, _, _, _, _⟩ := cells3_ BK368.out) | (have zz_ := z29_; clear zz_; (with_reducible refine gate_dst (N := 2) rfl ?_); refine box_event ?hg (N := 2) ?hd (cs := #[.int .i64 0, .int .i64 0, .slice none 0 0]) (t := 44) ?hr ?_; (case hd => rfl); (case hg => rfl); (case hr => first | (go_simp; done) | (go_simp; rfl)); intro gb13640 hg w13641 hbox hb; have n0_ := mk_ (below_step (ub_ HB.out) hb); have BK368 := mk_ (hbox); have GW368 := mk_ ((by rw [hg]; exact (below_size (ub_ HB.out)) : w.heap.size ≤ gb13640)); have GE368 := ge_ ((by rw [hg]; exact (below_size (ub_ HB.out)) : w.heap.size ≤ gb13640)); replace HB := n0_; clear n0_; clear hb hbox hg; obtain ⟨i13642, hi13642, _, hsz13643, _⟩ := info_parts info5; obtain ⟨A13643, hcut13643, hA13643, hC13643⟩ := print_drop_of (P := Try.prog) (Value.int .u8) 0 22 5 .i64 Try.underlying22 hi13642 hsz13643 A0 c0 l0 4 (by omega) (of_decide_eq_true (by first | (with_reducible assumption) | assumption)) HC0.out; have HR13644 := mk_ (Kd.C_of_reads (h1 := fun _ => rfl) (hA13643 _ (Kd.reads_of_C HR0.out))); have HC13644 := mk_ hC13643; clear hA13643 hC13643 hi13642 hsz13643))
 ·refine bodyPost_ret (results_ct rfl _ _ gb13640 44 #[.int .i64 0, .int .i64 0, .slice none 0 0] (0, 0) _ rfl (by (with_reducible repeat (first | refine bn_ ?_ _ | refine bw_ ?_ | refine ba_ ?_ _)); refine blk_put (cs := #[.int .i64 0, .int .i64 0, .slice none 0 0]) ?_ 2 _ rfl; (with_reducible repeat (first | refine bn_ ?_ _ | refine bw_ ?_ | refine ba_ ?_ _)); refine blk_put (cs := #[.int .i64 0, .int .i64 0, .slice none 0 0]) ?_ 1 _ rfl; (with_reducible repeat (first | refine bn_ ?_ _ | refine bw_ ?_ | refine ba_ ?_ _)); refine blk_put (cs := #[.int .i64 0, .int .i64 0, .slice none 0 0]) ?_ 0 _ rfl; (with_reducible repeat (first | refine bn_ ?_ _ | refine bw_ ?_ | refine ba_ ?_ _)); exact BK368.out) Try.underlying44 rfl (by kernel_rfl)) rfl ?_
  exact ⟨_, by first | rfl | (simp [errW_none, errW_some] <;> rfl) | (simp [*, errW_none, errW_some] <;> rfl), by first | exact Kd.R_nil _ _ _ _ _ | exact Kd.N_nil _ _ _ _ _ | exact Kd.V_nil _ _ _ _ _ | exact Kd.Q_nil _ _ _ _ _ | exact Kd.S_nil _ _ _ _ _, us_ HB.out⟩
 all_goals
  have n0_ := mk_ (blk_drew BK368.out)
  have n1_ := mk_ (below_drew1 HB.out)
  clear BK368
  clear HB
  have BK368 := n0_
  have HB := n1_
  clear n0_ n1_
  have p18560 : 0 ≤ (0 : Int) := (by omega)
  have q18560 : 0 < (l0.length : Int) := of_decide_eq_true (by first | (with_reducible assumption) | assumption)
  obtain ⟨ad18560, e18560, hx369_0⟩ := Kd.at_int HR0.out 0 p18560 q18560
  have hw369_0 := hx369_0
  (try rw [show ((0 : Int)).toNat = 0 from rfl] at hw369_0)
  (try rw [show 0 * 1 = 0 from rfl] at hw369_0)
  (try rw [Addr.add_zero'] at hw369_0)
  cases e18560
  have qi18560 : (0 < l0.length) = True := eq_true (by omega)
  (try rw [show ((0 : Int)).toNat = 0 from rfl] at hx369_0)
  (try rw [Addr.add_zero'] at hx369_0)
  replace hx369_0 := (HB.out.cell (lc_ w _ hx369_0)).trans hx369_0
  replace p18560 := eq_true p18560
  replace q18560 := eq_true q18560
  refine start_ (n := 13) (S := fun w' => w'.cell? ad18560 = some (.int .u8 (rd l0 0))) (ds := []) #[F_, F_, F_, F_, F_, F_, F_, F_, F_, F_, F_, F_, F_] (by kernel_rfl) rfl rfl (((HB.out.cell (lc_ w _ hw369_0)).trans hw369_0)) (fun hHeld => ?_); refine with_tabW spec_NoteFrom.tab3 spec_NoteFrom.bits3 (fun HT_ HW_ => ?_)
  generalize w13641.drew = w19160 at BK368 HB hx369_0 hHeld ⊢
  refine pure_ (i := 0) (N := some 9) (v := ?_) (a' := ?_) #[T_, F_, F_, F_, F_, F_, F_, F_, F_, F_, F_, F_, F_] rfl rfl (any_of HT_.out (by kernel_rfl)) (fun _ _ _ h => h) (Or.inl ⟨by rfl, ?_⟩) ?_ ?_
  rotate_left
  ·intro w'
   go_simp
   with_reducible rfl
  rotate_left
  ·simp only [Act.put, la_, lz_, ls_, i64_w, i32_w]
   rfl
  refine pure_ (i := 1) (N := some 10) (v := ?_) (a' := ?_) #[T_, T_, F_, F_, F_, F_, F_, F_, F_, F_, F_, F_, F_] rfl rfl (any_of HT_.out (by kernel_rfl)) (fun _ _ _ h => h) (Or.inl ⟨by rfl, ?_⟩) ?_ ?_
  rotate_left
  ·intro w'
   go_simp
   with_reducible rfl
  rotate_left
  ·simp only [Act.put, la_, lz_, ls_, i64_w, i32_w]
   rfl
  refine pure_ (i := 4) (N := some 13) (v := ?_) (a' := ?_) #[T_, T_, F_, F_, T_, F_, F_, F_, F_, F_, F_, F_, F_] rfl rfl (any_of HT_.out (by kernel_rfl)) (fun _ _ _ h => h) (Or.inl ⟨by rfl, ?_⟩) ?_ ?_
  rotate_left
  ·intro w'
   go_simp
   with_reducible rfl
  rotate_left
  ·simp only [Act.put, la_, lz_, ls_, i64_w, i32_w]
   rfl
  refine pure_ (i := 7) (N := some 16) (v := ?_) (a' := ?_) #[T_, T_, F_, F_, T_, F_, F_, T_, F_, F_, F_, F_, F_] rfl rfl (any_of HT_.out (by kernel_rfl)) (fun _ _ _ h => h) (Or.inl ⟨by rfl, ?_⟩) ?_ ?_
  rotate_left
  ·intro w'
   go_simp
   with_reducible rfl
  rotate_left
  ·simp only [Act.put, la_, lz_, ls_, i64_w, i32_w]
   rfl
  refine pure_ (i := 8) (N := some 17) (v := ?_) (a' := ?_) #[T_, T_, F_, F_, T_, F_, F_, T_, T_, F_, F_, F_, F_] rfl rfl (any_of HT_.out (by kernel_rfl)) (fun _ _ _ h => h) (Or.inl ⟨by rfl, ?_⟩) ?_ ?_
  rotate_left
  ·intro w'
   go_simp
   with_reducible rfl
  rotate_left
  ·simp only [Act.put, la_, lz_, ls_, i64_w, i32_w]
   rfl
  refine take_ (i := 2) (N := some 11) (v := ?_) (a' := ?_) #[T_, T_, T_, F_, T_, F_, F_, T_, T_, F_, F_, F_, F_] rfl rfl (take_ofW HT_.out HW_.out (by kernel_rfl)) (fun _ _ _ h => h) (Or.inl ⟨by rfl, ?_⟩) hHeld ?_ ?_
  rotate_left
  ·intro w' s19200
   go_simp
   with_reducible rfl
  rotate_left
  ·simp only [Act.put, la_, lz_, ls_, i64_w, i32_w]
   rfl
  refine pure_ (i := 3) (N := some 12) (v := ?_) (a' := ?_) #[T_, T_, T_, T_, T_, F_, F_, T_, T_, F_, F_, F_, F_] rfl rfl (any_of HT_.out (by kernel_rfl)) (fun _ _ _ h => h) (Or.inl ⟨by rfl, ?_⟩) ?_ ?_
  rotate_left
  ·intro w'
   go_simp
   with_reducible rfl
  rotate_left
  ·simp only [Act.put, la_, lz_, ls_, i64_w, i32_w]
   rfl
  refine join_ (σ := Value × Value × Nat) 1 #[T_, T_, T_, T_, T_, T_, T_, T_, T_, T_, T_, T_, F_] (fun s_ => [(14, .int .i64 t370), (15, s_.1), (18, s_.2.1), (4, .pointer (some ⟨s_.2.2, 0, none⟩)), (19, .agg #[.int .i64 (wrap64 (rd l0 0)), .int .i64 t370, s_.2.1])]) (fun s_ w' => (w'.cell? ad18560 = some (.int .u8 (rd l0 0))) ∧ (Kd.R (Kd.int .u8) 5 w' w.heap.size (fun _ => True) s_.2.1 y375) ∧ (w'.heap[gb13640]? = some (.cells #[.int .i64 0, .int .i64 0, .slice none 0 0] 44 (0, 0))) ∧ (w'.heap[s_.2.2]? = some (.cells #[.int .i64 0, .int .i64 0, .slice none 0 0] 44 (0, 0))) ∧ (w.heap.size ≤ s_.2.2) ∧ (w.heap.size ≤ s_.2.2) ∧ (gb13640 ≠ s_.2.2) ∧ (s_.2.2 ≠ gb13640) ∧ (Below w.heap.size w w')) ?_ ?_
  rotate_left
  ·intro hJ5_6_9_11
   refine join_ (σ := Value × Value) 2 #[T_, T_, T_, T_, T_, T_, T_, T_, T_, T_, T_, F_, F_] (fun s_ => [(14, .int .i64 t370), (15, s_.1), (18, s_.2), (19, .agg #[.int .i64 (wrap64 (rd l0 0)), .int .i64 t370, s_.2])]) (fun s_ w' => (w'.cell? ad18560 = some (.int .u8 (rd l0 0))) ∧ (Kd.R (Kd.int .u8) 5 w' w.heap.size (fun _ => True) s_.2 y375) ∧ (w'.heap[gb13640]? = some (.cells #[.int .i64 0, .int .i64 0, .slice none 0 0] 44 (0, 0))) ∧ (Below w.heap.size w w')) ?_ ?_
   rotate_left
   ·intro hJ5_6_9
    refine join_ (σ := Value × Nat) 3 #[T_, T_, T_, T_, T_, T_, T_, T_, T_, F_, F_, T_, F_] (fun s_ => [(14, .int .i64 t370), (15, s_.1), (4, .pointer (some ⟨s_.2, 0, none⟩))]) (fun s_ w' => (w'.cell? ad18560 = some (.int .u8 (rd l0 0))) ∧ (Kd.R (Kd.int .u8) 5 w' w.heap.size (fun _ => True) s_.1 y371) ∧ (w'.heap[gb13640]? = some (.cells #[.int .i64 0, .int .i64 0, .slice none 0 0] 44 (0, 0))) ∧ (w'.heap[s_.2]? = some (.cells #[.int .i64 0, .int .i64 0, .slice none 0 0] 44 (0, 0))) ∧ (w.heap.size ≤ s_.2) ∧ (w.heap.size ≤ s_.2) ∧ (gb13640 ≠ s_.2) ∧ (s_.2 ≠ gb13640) ∧ (Below w.heap.size w w')) ?_ ?_
    rotate_left
    ·intro hJ5_6_11
     refine join_ (σ := Value) 4 #[T_, T_, T_, T_, T_, T_, T_, T_, T_, F_, F_, F_, F_] (fun s_ => [(14, .int .i64 t370), (15, s_)]) (fun s_ w' => (w'.cell? ad18560 = some (.int .u8 (rd l0 0))) ∧ (Kd.R (Kd.int .u8) 5 w' w.heap.size (fun _ => True) s_ y371) ∧ (w'.heap[gb13640]? = some (.cells #[.int .i64 0, .int .i64 0, .slice none 0 0] 44 (0, 0))) ∧ (Below w.heap.size w w')) ?_ ?_
     rotate_left
     ·intro hJ5_6
      refine join_ (σ := Nat) 4 #[T_, T_, T_, T_, T_, T_, F_, T_, T_, F_, F_, T_, F_] (fun s_ => [(14, .int .i64 t370), (4, .pointer (some ⟨s_, 0, none⟩))]) (fun s_ w' => (w'.cell? ad18560 = some (.int .u8 (rd l0 0))) ∧ (w'.heap[gb13640]? = some (.cells #[.int .i64 0, .int .i64 0, .slice none 0 0] 44 (0, 0))) ∧ (w'.heap[s_]? = some (.cells #[.int .i64 0, .int .i64 0, .slice none 0 0] 44 (0, 0))) ∧ (w.heap.size ≤ s_) ∧ (w.heap.size ≤ s_) ∧ (gb13640 ≠ s_) ∧ (s_ ≠ gb13640) ∧ (Below w.heap.size w w')) ?_ ?_
      rotate_left
      ·intro hJ5_11
       refine join_ (σ := Value × Nat) 4 #[T_, T_, T_, T_, T_, F_, T_, T_, T_, F_, F_, T_, F_] (fun s_ => [(15, s_.1), (4, .pointer (some ⟨s_.2, 0, none⟩))]) (fun s_ w' => (w'.cell? ad18560 = some (.int .u8 (rd l0 0))) ∧ (Kd.R (Kd.int .u8) 5 w' w.heap.size (fun _ => True) s_.1 y371) ∧ (w'.heap[gb13640]? = some (.cells #[.int .i64 0, .int .i64 0, .slice none 0 0] 44 (0, 0))) ∧ (w'.heap[s_.2]? = some (.cells #[.int .i64 0, .int .i64 0, .slice none 0 0] 44 (0, 0))) ∧ (w.heap.size ≤ s_.2) ∧ (w.heap.size ≤ s_.2) ∧ (gb13640 ≠ s_.2) ∧ (s_.2 ≠ gb13640) ∧ (Below w.heap.size w w')) ?_ ?_
       rotate_left
       ·intro hJ6_11
        refine join_ (σ := Unit) 5 #[T_, T_, T_, T_, T_, T_, F_, T_, T_, F_, F_, F_, F_] (fun s_ => [(14, .int .i64 t370)]) (fun s_ w' => (w'.cell? ad18560 = some (.int .u8 (rd l0 0))) ∧ (w'.heap[gb13640]? = some (.cells #[.int .i64 0, .int .i64 0, .slice none 0 0] 44 (0, 0))) ∧ (Below w.heap.size w w')) ?_ ?_
        rotate_left
        ·intro hJ21360
         refine join_ (σ := Value) 5 #[T_, T_, T_, T_, T_, F_, T_, T_, T_, F_, F_, F_, F_] (fun s_ => [(15, s_)]) (fun s_ w' => (w'.cell? ad18560 = some (.int .u8 (rd l0 0))) ∧ (Kd.R (Kd.int .u8) 5 w' w.heap.size (fun _ => True) s_ y371) ∧ (w'.heap[gb13640]? = some (.cells #[.int .i64 0, .int .i64 0, .slice none 0 0] 44 (0, 0))) ∧ (Below w.heap.size w w')) ?_ ?_
         rotate_left
         ·intro hJ21361
          refine join_ (σ := Nat) 5 #[T_, T_, T_, T_, T_, F_, F_, T_, T_, F_, F_, T_, F_] (fun s_ => [(4, .pointer (some ⟨s_, 0, none⟩))]) (fun s_ w' => (w'.cell? ad18560 = some (.int .u8 (rd l0 0))) ∧ (w'.heap[gb13640]? = some (.cells #[.int .i64 0, .int .i64 0, .slice none 0 0] 44 (0, 0))) ∧ (w'.heap[s_]? = some (.cells #[.int .i64 0, .int .i64 0, .slice none 0 0] 44 (0, 0))) ∧ (w.heap.size ≤ s_) ∧ (w.heap.size ≤ s_) ∧ (gb13640 ≠ s_) ∧ (s_ ≠ gb13640) ∧ (Below w.heap.size w w')) ?_ ?_
          rotate_left
          ·intro hJ21362
           refine three_ (i := 5) (j := 6) (k := 11) (Ni := some 14) (Nj := some 15) (Nk := some 4) #[T_, T_, T_, T_, T_, T_, F_, T_, T_, F_, F_, F_, F_] #[T_, T_, T_, T_, T_, F_, T_, T_, T_, F_, F_, F_, F_] #[T_, T_, T_, T_, T_, F_, F_, T_, T_, F_, F_, T_, F_] rfl rfl rfl rfl rfl rfl (three_of HT_.out (by kernel_rfl)) (by decide) (by decide) (by decide) (fun K hK => ?_) (fun K hK => ?_) (fun K hK => ?_)
           ·skip
            refine goes_ Try.func101 (by kernel_rfl) rfl #[.slice (some ad18560) l0.length c0, .int .i64 1, .int .i64 2] (by rfl) rfl rfl (by (try simp only [lm_, lo_, ln_]); try rfl) ?_
            with_reducible refine (spec_NumberAt.calls k _ _ l0 1 2 t370 _ ?side1 ?side2 A6.out).mono ?_
            (case side1 => repeat (first | exact (Kd.C_below HR0.out HB.out) | (with_reducible refine Kd.C_alloc ?_ _) | (with_reducible refine Kd.C_drewN ?_ _) | (with_reducible refine Kd.C_drew ?_)))
            (case side2 => exact HC0.out)
            rintro e w' ⟨rfl, ⟨nd, rfl⟩⟩
            refine ⟨_, rfl, ?_⟩
            refine hK.out _ _ (((HB.out.cell (lc_ w _ hw369_0)).trans hw369_0)) (fun hHeld => ?_)
            clear hK K
            refine norm_ (a' := ?_) ?_ ?_
            rotate_left
            ·show Act.put _ (some 14) _ = _
             simp only [Act.put, la_, lz_, ls_, i64_w, i32_w]
             rfl
            exact norm_ (by first | (simp only [putAll, Act.put, la_, lz_, ls_]; done) | (simp only [putAll, Act.put, la_, lz_, ls_]; rfl)) (hJ21360 () _ ⟨hHeld, (u_ BK368.out), (us_ HB.out)⟩)
           ·skip
            refine Kd.R_lit_step (Kd.int .u8) _ 5 ?hg (N := 15) ?hd (xs := ([] : List Int)) (inner := []) (ok := fun _ => True) (okp := fun _ => True) ?hr ?hp (fun _ hk => hk) trivial (Below.refl _ _) (Nat.le_refl _) (by simp) ?_; (case hd => rfl); (case hg => rfl); (case hr => first | (go_simp; done) | (go_simp; rfl)); (case hp => exact (Reps.none _ _))
            intro v21363 w21364 ho21365 hb hg_ hnew_
            clear hg_ hnew_
            (first | rw [← Ny371.out] at ho21365 | (simp only [Int.reduceToNat] at ho21365; rw [← Ny371.out] at ho21365))
            have n0_ := mk_ (Kd.R_lower ho21365 (below_size (us_ HB.out)))
            have n1_ := mk_ (blk_below (u_ BK368.out) hb)
            have n2_ := mk_ (below_step (us_ HB.out) hb)
            clear BK368
            clear HB
            have HO373 := n0_
            have BK368 := n1_
            have HB := n2_
            clear n0_ n1_ n2_
            clear hb ho21365
            refine hK.out _ _ (((HB.out.cell (lc_ w _ hw369_0)).trans hw369_0)) (fun hHeld => ?_)
            clear hK K
            refine norm_ (a' := ?_) ?_ ?_
            rotate_left
            ·show Act.put _ (some 15) _ = _
             simp only [Act.put, la_, lz_, ls_, i64_w, i32_w]
             rfl
            exact norm_ (by first | (simp only [putAll, Act.put, la_, lz_, ls_]; done) | (simp only [putAll, Act.put, la_, lz_, ls_]; rfl)) (hJ21361 (v21363) _ ⟨hHeld, (Kd.ur_ HO373.out), (u_ BK368.out), (us_ HB.out)⟩)
           skip
           refine box_step ?hg (N := 4) ?hd (cs := #[.int .i64 0, .int .i64 0, .slice none 0 0]) (t := 44) ?hr ?_; (case hd => rfl); (case hg => rfl); (case hr => first | (go_simp; done) | (go_simp; rfl))
           intro gb21366 hg w21364 hbox hb
           have n0_ := mk_ (blk_below (u_ BK368.out) hb)
           have n1_ := mk_ (below_step (us_ HB.out) hb)
           have n2_ := mk_ (hbox)
           have n3_ := mk_ ((by rw [hg]; exact (below_size (us_ HB.out)) : w.heap.size ≤ gb21366))
           have n4_ := mk_ ((by rw [hg]; exact (below_size (us_ HB.out)) : w.heap.size ≤ gb21366))
           have n5_ := mk_ ((by rw [hg]; exact Nat.ne_of_lt (blk_lt (u_ BK368.out)) : gb13640 ≠ gb21366))
           have n6_ := mk_ ((by rw [hg]; exact Nat.ne_of_gt (blk_lt (u_ BK368.out)) : gb21366 ≠ gb13640))
           clear BK368
           clear HB
           have BK368 := n0_
           have HB := n1_
           have BK378 := n2_
           have GW378 := n3_
           have GE378 := ge_ n4_.out
           have NB368_378 := nq_ n5_.out
           have NB378_368 := nq_ n6_.out
           clear n0_ n1_ n2_ n3_ n4_ n5_ n6_
           clear hb hbox hg
           refine hK.out _ _ (((HB.out.cell (lc_ w _ hw369_0)).trans hw369_0)) (fun hHeld => ?_)
           clear hK K
           refine norm_ (a' := ?_) ?_ ?_
           rotate_left
           ·show Act.put _ (some 4) _ = _
            simp only [Act.put, la_, lz_, ls_, i64_w, i32_w]
            rfl
           exact norm_ (by first | (simp only [putAll, Act.put, la_, lz_, ls_]; done) | (simp only [putAll, Act.put, la_, lz_, ls_]; rfl)) (hJ21362 (gb21366) _ ⟨hHeld, (u_ BK368.out), (u_ BK378.out), GW378.out, GE378.out, NB368_378.out, NB378_368.out, (us_ HB.out)⟩)
          skip
          rintro gb21366 w21365 ⟨hS_, h0_, h1_, h2_, h3_, h4_, h5_, h6_⟩
          have n0_ : Aside0 (w21365.heap[gb13640]? = some (.cells #[.int .i64 0, .int .i64 0, .slice none 0 0] 44 (0, 0))) := ⟨h0_⟩
          have n1_ : Aside0 (w21365.heap[gb21366]? = some (.cells #[.int .i64 0, .int .i64 0, .slice none 0 0] 44 (0, 0))) := ⟨h1_⟩
          have n2_ : Aside0 (w.heap.size ≤ gb21366) := ⟨h2_⟩
          have n3_ : Aside0 (w.heap.size ≤ gb21366) := ⟨h3_⟩
          have n4_ : Aside0 (gb13640 ≠ gb21366) := ⟨h4_⟩
          have n5_ : Aside0 (gb21366 ≠ gb13640) := ⟨h5_⟩
          have n6_ : Aside0 (Below w.heap.size w w21365) := ⟨h6_⟩
          clear BK368
          clear HB
          clear h0_ h1_ h2_ h3_ h4_ h5_ h6_
          have BK368 := n0_
          have BK378 := n1_
          have GW378 := n2_
          have GE378 := ge_ n3_.out
          have NB368_378 := nq_ n4_.out
          have NB378_368 := nq_ n5_.out
          have HB := n6_
          clear n0_ n1_ n2_ n3_ n4_ n5_ n6_
          have hHeld : w21365.cell? ad18560 = some (.int .u8 (rd l0 0)) := hS_
          refine norm_ (a' := ?_) ?_ ?_
          rotate_left
          ·simp only [putAll, Act.put, la_, lz_, ls_]
           rfl
          refine two_ (i := 5) (j := 6) (Ni := some 14) (Nj := some 15) #[T_, T_, T_, T_, T_, T_, F_, T_, T_, F_, F_, T_, F_] #[T_, T_, T_, T_, T_, F_, T_, T_, T_, F_, F_, T_, F_] rfl rfl rfl rfl (two_of HT_.out (by kernel_rfl)) (by decide) (by decide) (fun K hK => ?_) (fun K hK => ?_)
          ·skip
           refine goes_ Try.func101 (by kernel_rfl) rfl #[.slice (some ad18560) l0.length c0, .int .i64 1, .int .i64 2] (by rfl) rfl rfl (by (try simp only [lm_, lo_, ln_]); try rfl) ?_
           with_reducible refine (spec_NumberAt.calls k _ _ l0 1 2 t370 _ ?side1 ?side2 A6.out).mono ?_
           (case side1 => repeat (first | exact (Kd.C_below HR0.out HB.out) | (with_reducible refine Kd.C_alloc ?_ _) | (with_reducible refine Kd.C_drewN ?_ _) | (with_reducible refine Kd.C_drew ?_)))
           (case side2 => exact HC0.out)
           rintro e w' ⟨rfl, ⟨nd, rfl⟩⟩
           refine ⟨_, rfl, ?_⟩
           refine hK.out _ _ (((HB.out.cell (lc_ w _ hw369_0)).trans hw369_0)) (fun hHeld => ?_)
           clear hK K
           refine norm_ (a' := ?_) ?_ ?_
           rotate_left
           ·show Act.put _ (some 14) _ = _
            simp only [Act.put, la_, lz_, ls_, i64_w, i32_w]
            rfl
           exact norm_ (by first | (simp only [putAll, Act.put, la_, lz_, ls_]; done) | (simp only [putAll, Act.put, la_, lz_, ls_]; rfl)) (hJ5_11 (gb21366) _ ⟨hHeld, (u_ BK368.out), (u_ BK378.out), GW378.out, GE378.out, NB368_378.out, NB378_368.out, (us_ HB.out)⟩)
          skip
          refine Kd.R_lit_step (Kd.int .u8) _ 5 ?hg (N := 15) ?hd (xs := ([] : List Int)) (inner := []) (ok := fun _ => True) (okp := fun _ => True) ?hr ?hp (fun _ hk => hk) trivial (Below.refl _ _) (Nat.le_refl _) (by simp) ?_; (case hd => rfl); (case hg => rfl); (case hr => first | (go_simp; done) | (go_simp; rfl)); (case hp => exact (Reps.none _ _))
          intro v21363 w21367 ho21368 hb hg_ hnew_
          clear hg_ hnew_
          (first | rw [← Ny371.out] at ho21368 | (simp only [Int.reduceToNat] at ho21368; rw [← Ny371.out] at ho21368))
          have n0_ := mk_ (Kd.R_lower ho21368 (below_size (us_ HB.out)))
          have n1_ := mk_ (blk_below (u_ BK368.out) hb)
          have n2_ := mk_ (blk_below (u_ BK378.out) hb)
          have n3_ := mk_ (below_step (us_ HB.out) hb)
          clear BK368
          clear BK378
          clear HB
          have HO373 := n0_
          have BK368 := n1_
          have BK378 := n2_
          have HB := n3_
          clear n0_ n1_ n2_ n3_
          clear hb ho21368
          refine hK.out _ _ (((HB.out.cell (lc_ w _ hw369_0)).trans hw369_0)) (fun hHeld => ?_)
          clear hK K
          refine norm_ (a' := ?_) ?_ ?_
          rotate_left
          ·show Act.put _ (some 15) _ = _
           simp only [Act.put, la_, lz_, ls_, i64_w, i32_w]
           rfl
          exact norm_ (by first | (simp only [putAll, Act.put, la_, lz_, ls_]; done) | (simp only [putAll, Act.put, la_, lz_, ls_]; rfl)) (hJ6_11 (v21363, gb21366) _ ⟨hHeld, (Kd.ur_ HO373.out), (u_ BK368.out), (u_ BK378.out), GW378.out, GE378.out, NB368_378.out, NB378_368.out, (us_ HB.out)⟩)
         skip
         rintro v21363 w21367 ⟨hS_, h0_, h1_, h2_⟩
         have n0_ : Aside0 (Kd.R (Kd.int .u8) 5 w21367 w.heap.size (fun _ => True) v21363 y371) := ⟨h0_⟩
         have n1_ : Aside0 (w21367.heap[gb13640]? = some (.cells #[.int .i64 0, .int .i64 0, .slice none 0 0] 44 (0, 0))) := ⟨h1_⟩
         have n2_ : Aside0 (Below w.heap.size w w21367) := ⟨h2_⟩
         clear BK368
         clear HB
         clear h0_ h1_ h2_
         have HO373 := n0_
         have BK368 := n1_
         have HB := n2_
         clear n0_ n1_ n2_
         have hHeld : w21367.cell? ad18560 = some (.int .u8 (rd l0 0)) := hS_
         refine norm_ (a' := ?_) ?_ ?_
         rotate_left
         ·simp only [putAll, Act.put, la_, lz_, ls_]
          rfl
         refine two_ (i := 5) (j := 11) (Ni := some 14) (Nj := some 4) #[T_, T_, T_, T_, T_, T_, T_, T_, T_, F_, F_, F_, F_] #[T_, T_, T_, T_, T_, F_, T_, T_, T_, F_, F_, T_, F_] rfl rfl rfl rfl (two_of HT_.out (by kernel_rfl)) (by decide) (by decide) (fun K hK => ?_) (fun K hK => ?_)
         ·skip
          refine goes_ Try.func101 (by kernel_rfl) rfl #[.slice (some ad18560) l0.length c0, .int .i64 1, .int .i64 2] (by rfl) rfl rfl (by (try simp only [lm_, lo_, ln_]); try rfl) ?_
          with_reducible refine (spec_NumberAt.calls k _ _ l0 1 2 t370 _ ?side1 ?side2 A6.out).mono ?_
          (case side1 => repeat (first | exact (Kd.C_below HR0.out HB.out) | (with_reducible refine Kd.C_alloc ?_ _) | (with_reducible refine Kd.C_drewN ?_ _) | (with_reducible refine Kd.C_drew ?_)))
          (case side2 => exact HC0.out)
          rintro e w' ⟨rfl, ⟨nd, rfl⟩⟩
          refine ⟨_, rfl, ?_⟩
          refine hK.out _ _ (((HB.out.cell (lc_ w _ hw369_0)).trans hw369_0)) (fun hHeld => ?_)
          clear hK K
          refine norm_ (a' := ?_) ?_ ?_
          rotate_left
          ·show Act.put _ (some 14) _ = _
           simp only [Act.put, la_, lz_, ls_, i64_w, i32_w]
           rfl
          exact norm_ (by first | (simp only [putAll, Act.put, la_, lz_, ls_]; done) | (simp only [putAll, Act.put, la_, lz_, ls_]; rfl)) (hJ5_6 (v21363) _ ⟨hHeld, (Kd.ur_ HO373.out), (u_ BK368.out), (us_ HB.out)⟩)
         skip
         refine box_step ?hg (N := 4) ?hd (cs := #[.int .i64 0, .int .i64 0, .slice none 0 0]) (t := 44) ?hr ?_; (case hd => rfl); (case hg => rfl); (case hr => first | (go_simp; done) | (go_simp; rfl))
         intro gb21366 hg w21368 hbox hb
         have n0_ := mk_ (Kd.R_below (Kd.ur_ HO373.out) hb)
         have n1_ := mk_ (blk_below (u_ BK368.out) hb)
         have n2_ := mk_ (below_step (us_ HB.out) hb)
         have n3_ := mk_ (hbox)
         have n4_ := mk_ ((by rw [hg]; exact (below_size (us_ HB.out)) : w.heap.size ≤ gb21366))
         have n5_ := mk_ ((by rw [hg]; exact (below_size (us_ HB.out)) : w.heap.size ≤ gb21366))
         have n6_ := mk_ ((by rw [hg]; exact Nat.ne_of_lt (blk_lt (u_ BK368.out)) : gb13640 ≠ gb21366))
         have n7_ := mk_ ((by rw [hg]; exact Nat.ne_of_gt (blk_lt (u_ BK368.out)) : gb21366 ≠ gb13640))
         clear HO373
         clear BK368
         clear HB
         have HO373 := n0_
         have BK368 := n1_
         have HB := n2_
         have BK378 := n3_
         have GW378 := n4_
         have GE378 := ge_ n5_.out
         have NB368_378 := nq_ n6_.out
         have NB378_368 := nq_ n7_.out
         clear n0_ n1_ n2_ n3_ n4_ n5_ n6_ n7_
         clear hb hbox hg
         refine hK.out _ _ (((HB.out.cell (lc_ w _ hw369_0)).trans hw369_0)) (fun hHeld => ?_)
         clear hK K
         refine norm_ (a' := ?_) ?_ ?_
         rotate_left
         ·show Act.put _ (some 4) _ = _
          simp only [Act.put, la_, lz_, ls_, i64_w, i32_w]
          rfl
         exact norm_ (by first | (simp only [putAll, Act.put, la_, lz_, ls_]; done) | (simp only [putAll, Act.put, la_, lz_, ls_]; rfl)) (hJ6_11 (v21363, gb21366) _ ⟨hHeld, (Kd.ur_ HO373.out), (u_ BK368.out), (u_ BK378.out), GW378.out, GE378.out, NB368_378.out, NB378_368.out, (us_ HB.out)⟩)
        skip
        rintro _ w21364 ⟨hS_, h0_, h1_⟩
        have n0_ : Aside0 (w21364.heap[gb13640]? = some (.cells #[.int .i64 0, .int .i64 0, .slice none 0 0] 44 (0, 0))) := ⟨h0_⟩
        have n1_ : Aside0 (Below w.heap.size w w21364) := ⟨h1_⟩
        clear BK368
        clear HB
        clear h0_ h1_
        have BK368 := n0_
        have HB := n1_
        clear n0_ n1_
        have hHeld : w21364.cell? ad18560 = some (.int .u8 (rd l0 0)) := hS_
        refine norm_ (a' := ?_) ?_ ?_
        rotate_left
        ·simp only [putAll, Act.put, la_, lz_, ls_]
         rfl
        refine two_ (i := 6) (j := 11) (Ni := some 15) (Nj := some 4) #[T_, T_, T_, T_, T_, T_, T_, T_, T_, F_, F_, F_, F_] #[T_, T_, T_, T_, T_, T_, F_, T_, T_, F_, F_, T_, F_] rfl rfl rfl rfl (two_of HT_.out (by kernel_rfl)) (by decide) (by decide) (fun K hK => ?_) (fun K hK => ?_)
        ·skip
         refine Kd.R_lit_step (Kd.int .u8) _ 5 ?hg (N := 15) ?hd (xs := ([] : List Int)) (inner := []) (ok := fun _ => True) (okp := fun _ => True) ?hr ?hp (fun _ hk => hk) trivial (Below.refl _ _) (Nat.le_refl _) (by simp) ?_; (case hd => rfl); (case hg => rfl); (case hr => first | (go_simp; done) | (go_simp; rfl)); (case hp => exact (Reps.none _ _))
         intro v21363 w21365 ho21367 hb hg_ hnew_
         clear hg_ hnew_
         (first | rw [← Ny371.out] at ho21367 | (simp only [Int.reduceToNat] at ho21367; rw [← Ny371.out] at ho21367))
         have n0_ := mk_ (Kd.R_lower ho21367 (below_size (us_ HB.out)))
         have n1_ := mk_ (blk_below (u_ BK368.out) hb)
         have n2_ := mk_ (below_step (us_ HB.out) hb)
         clear BK368
         clear HB
         have HO373 := n0_
         have BK368 := n1_
         have HB := n2_
         clear n0_ n1_ n2_
         clear hb ho21367
         refine hK.out _ _ (((HB.out.cell (lc_ w _ hw369_0)).trans hw369_0)) (fun hHeld => ?_)
         clear hK K
         refine norm_ (a' := ?_) ?_ ?_
         rotate_left
         ·show Act.put _ (some 15) _ = _
          simp only [Act.put, la_, lz_, ls_, i64_w, i32_w]
          rfl
         exact norm_ (by first | (simp only [putAll, Act.put, la_, lz_, ls_]; done) | (simp only [putAll, Act.put, la_, lz_, ls_]; rfl)) (hJ5_6 (v21363) _ ⟨hHeld, (Kd.ur_ HO373.out), (u_ BK368.out), (us_ HB.out)⟩)
        skip
        refine box_step ?hg (N := 4) ?hd (cs := #[.int .i64 0, .int .i64 0, .slice none 0 0]) (t := 44) ?hr ?_; (case hd => rfl); (case hg => rfl); (case hr => first | (go_simp; done) | (go_simp; rfl))
        intro gb21366 hg w21365 hbox hb
        have n0_ := mk_ (blk_below (u_ BK368.out) hb)
        have n1_ := mk_ (below_step (us_ HB.out) hb)
        have n2_ := mk_ (hbox)
        have n3_ := mk_ ((by rw [hg]; exact (below_size (us_ HB.out)) : w.heap.size ≤ gb21366))
        have n4_ := mk_ ((by rw [hg]; exact (below_size (us_ HB.out)) : w.heap.size ≤ gb21366))
        have n5_ := mk_ ((by rw [hg]; exact Nat.ne_of_lt (blk_lt (u_ BK368.out)) : gb13640 ≠ gb21366))
        have n6_ := mk_ ((by rw [hg]; exact Nat.ne_of_gt (blk_lt (u_ BK368.out)) : gb21366 ≠ gb13640))
        clear BK368
        clear HB
        have BK368 := n0_
        have HB := n1_
        have BK378 := n2_
        have GW378 := n3_
        have GE378 := ge_ n4_.out
        have NB368_378 := nq_ n5_.out
        have NB378_368 := nq_ n6_.out
        clear n0_ n1_ n2_ n3_ n4_ n5_ n6_
        clear hb hbox hg
        refine hK.out _ _ (((HB.out.cell (lc_ w _ hw369_0)).trans hw369_0)) (fun hHeld => ?_)
        clear hK K
        refine norm_ (a' := ?_) ?_ ?_
        rotate_left
        ·show Act.put _ (some 4) _ = _
         simp only [Act.put, la_, lz_, ls_, i64_w, i32_w]
         rfl
        exact norm_ (by first | (simp only [putAll, Act.put, la_, lz_, ls_]; done) | (simp only [putAll, Act.put, la_, lz_, ls_]; rfl)) (hJ5_11 (gb21366) _ ⟨hHeld, (u_ BK368.out), (u_ BK378.out), GW378.out, GE378.out, NB368_378.out, NB378_368.out, (us_ HB.out)⟩)
       skip
       rintro ⟨v21363, gb21366⟩ w21368 ⟨hS_, h0_, h1_, h2_, h3_, h4_, h5_, h6_, h7_⟩
       have n0_ : Aside0 (Kd.R (Kd.int .u8) 5 w21368 w.heap.size (fun _ => True) v21363 y371) := ⟨h0_⟩
       have n1_ : Aside0 (w21368.heap[gb13640]? = some (.cells #[.int .i64 0, .int .i64 0, .slice none 0 0] 44 (0, 0))) := ⟨h1_⟩
       have n2_ : Aside0 (w21368.heap[gb21366]? = some (.cells #[.int .i64 0, .int .i64 0, .slice none 0 0] 44 (0, 0))) := ⟨h2_⟩
       have n3_ : Aside0 (w.heap.size ≤ gb21366) := ⟨h3_⟩
       have n4_ : Aside0 (w.heap.size ≤ gb21366) := ⟨h4_⟩
       have n5_ : Aside0 (gb13640 ≠ gb21366) := ⟨h5_⟩
       have n6_ : Aside0 (gb21366 ≠ gb13640) := ⟨h6_⟩
       have n7_ : Aside0 (Below w.heap.size w w21368) := ⟨h7_⟩
       clear BK368
       clear HB
       clear h0_ h1_ h2_ h3_ h4_ h5_ h6_ h7_
       have HO373 := n0_
       have BK368 := n1_
       have BK378 := n2_
       have GW378 := n3_
       have GE378 := ge_ n4_.out
       have NB368_378 := nq_ n5_.out
       have NB378_368 := nq_ n6_.out
       have HB := n7_
       clear n0_ n1_ n2_ n3_ n4_ n5_ n6_ n7_
       have hHeld : w21368.cell? ad18560 = some (.int .u8 (rd l0 0)) := hS_
       refine norm_ (a' := ?_) ?_ ?_
       rotate_left
       ·simp only [putAll, Act.put, la_, lz_, ls_]
        rfl
       refine one_ (i := 5) (N := some 14) #[T_, T_, T_, T_, T_, T_, T_, T_, T_, F_, F_, T_, F_] rfl rfl (one_of HT_.out (by kernel_rfl)) (by decide) (fun K hK => ?_)
       refine goes_ Try.func101 (by kernel_rfl) rfl #[.slice (some ad18560) l0.length c0, .int .i64 1, .int .i64 2] (by rfl) rfl rfl (by (try simp only [lm_, lo_, ln_]); try rfl) ?_
       with_reducible refine (spec_NumberAt.calls k _ _ l0 1 2 t370 _ ?side1 ?side2 A6.out).mono ?_
       (case side1 => repeat (first | exact (Kd.C_below HR0.out HB.out) | (with_reducible refine Kd.C_alloc ?_ _) | (with_reducible refine Kd.C_drewN ?_ _) | (with_reducible refine Kd.C_drew ?_)))
       (case side2 => exact HC0.out)
       rintro e w' ⟨rfl, ⟨nd, rfl⟩⟩
       refine ⟨_, rfl, ?_⟩
       refine hK.out _ _ (((HB.out.cell (lc_ w _ hw369_0)).trans hw369_0)) (fun hHeld => ?_)
       clear hK K
       refine norm_ (a' := ?_) ?_ ?_
       rotate_left
       ·show Act.put _ (some 14) _ = _
        simp only [Act.put, la_, lz_, ls_, i64_w, i32_w]
        rfl
       exact norm_ (by first | (simp only [putAll, Act.put, la_, lz_, ls_]; done) | (simp only [putAll, Act.put, la_, lz_, ls_]; rfl)) (hJ5_6_11 (v21363, gb21366) _ ⟨hHeld, (Kd.ur_ HO373.out), (u_ BK368.out), (u_ BK378.out), GW378.out, GE378.out, NB368_378.out, NB378_368.out, (us_ HB.out)⟩)
      skip
      rintro gb21366 w21365 ⟨hS_, h0_, h1_, h2_, h3_, h4_, h5_, h6_⟩
      have n0_ : Aside0 (w21365.heap[gb13640]? = some (.cells #[.int .i64 0, .int .i64 0, .slice none 0 0] 44 (0, 0))) := ⟨h0_⟩
      have n1_ : Aside0 (w21365.heap[gb21366]? = some (.cells #[.int .i64 0, .int .i64 0, .slice none 0 0] 44 (0, 0))) := ⟨h1_⟩
      have n2_ : Aside0 (w.heap.size ≤ gb21366) := ⟨h2_⟩
      have n3_ : Aside0 (w.heap.size ≤ gb21366) := ⟨h3_⟩
      have n4_ : Aside0 (gb13640 ≠ gb21366) := ⟨h4_⟩
      have n5_ : Aside0 (gb21366 ≠ gb13640) := ⟨h5_⟩
      have n6_ : Aside0 (Below w.heap.size w w21365) := ⟨h6_⟩
      clear BK368
      clear HB
      clear h0_ h1_ h2_ h3_ h4_ h5_ h6_
      have BK368 := n0_
      have BK378 := n1_
      have GW378 := n2_
      have GE378 := ge_ n3_.out
      have NB368_378 := nq_ n4_.out
      have NB378_368 := nq_ n5_.out
      have HB := n6_
      clear n0_ n1_ n2_ n3_ n4_ n5_ n6_
      have hHeld : w21365.cell? ad18560 = some (.int .u8 (rd l0 0)) := hS_
      refine norm_ (a' := ?_) ?_ ?_
      rotate_left
      ·simp only [putAll, Act.put, la_, lz_, ls_]
       rfl
      refine one_ (i := 6) (N := some 15) #[T_, T_, T_, T_, T_, T_, T_, T_, T_, F_, F_, T_, F_] rfl rfl (one_of HT_.out (by kernel_rfl)) (by decide) (fun K hK => ?_)
      refine Kd.R_lit_step (Kd.int .u8) _ 5 ?hg (N := 15) ?hd (xs := ([] : List Int)) (inner := []) (ok := fun _ => True) (okp := fun _ => True) ?hr ?hp (fun _ hk => hk) trivial (Below.refl _ _) (Nat.le_refl _) (by simp) ?_; (case hd => rfl); (case hg => rfl); (case hr => first | (go_simp; done) | (go_simp; rfl)); (case hp => exact (Reps.none _ _))
      intro v21363 w21367 ho21368 hb hg_ hnew_
      clear hg_ hnew_
      (first | rw [← Ny371.out] at ho21368 | (simp only [Int.reduceToNat] at ho21368; rw [← Ny371.out] at ho21368))
      have n0_ := mk_ (Kd.R_lower ho21368 (below_size (us_ HB.out)))
      have n1_ := mk_ (blk_below (u_ BK368.out) hb)
      have n2_ := mk_ (blk_below (u_ BK378.out) hb)
      have n3_ := mk_ (below_step (us_ HB.out) hb)
      clear BK368
      clear BK378
      clear HB
      have HO373 := n0_
      have BK368 := n1_
      have BK378 := n2_
      have HB := n3_
      clear n0_ n1_ n2_ n3_
      clear hb ho21368
      refine hK.out _ _ (((HB.out.cell (lc_ w _ hw369_0)).trans hw369_0)) (fun hHeld => ?_)
      clear hK K
      refine norm_ (a' := ?_) ?_ ?_
      rotate_left
      ·show Act.put _ (some 15) _ = _
       simp only [Act.put, la_, lz_, ls_, i64_w, i32_w]
       rfl
      exact norm_ (by first | (simp only [putAll, Act.put, la_, lz_, ls_]; done) | (simp only [putAll, Act.put, la_, lz_, ls_]; rfl)) (hJ5_6_11 (v21363, gb21366) _ ⟨hHeld, (Kd.ur_ HO373.out), (u_ BK368.out), (u_ BK378.out), GW378.out, GE378.out, NB368_378.out, NB378_368.out, (us_ HB.out)⟩)
     skip
     rintro v21363 w21367 ⟨hS_, h0_, h1_, h2_⟩
     have n0_ : Aside0 (Kd.R (Kd.int .u8) 5 w21367 w.heap.size (fun _ => True) v21363 y371) := ⟨h0_⟩
     have n1_ : Aside0 (w21367.heap[gb13640]? = some (.cells #[.int .i64 0, .int .i64 0, .slice none 0 0] 44 (0, 0))) := ⟨h1_⟩
     have n2_ : Aside0 (Below w.heap.size w w21367) := ⟨h2_⟩
     clear BK368
     clear HB
     clear h0_ h1_ h2_
     have HO373 := n0_
     have BK368 := n1_
     have HB := n2_
     clear n0_ n1_ n2_
     have hHeld : w21367.cell? ad18560 = some (.int .u8 (rd l0 0)) := hS_
     refine norm_ (a' := ?_) ?_ ?_
     rotate_left
     ·simp only [putAll, Act.put, la_, lz_, ls_]
      rfl
     refine two_ (i := 9) (j := 11) (Ni := some 18) (Nj := some 4) #[T_, T_, T_, T_, T_, T_, T_, T_, T_, T_, F_, F_, F_] #[T_, T_, T_, T_, T_, T_, T_, T_, T_, F_, F_, T_, F_] rfl rfl rfl rfl (two_of HT_.out (by kernel_rfl)) (by decide) (by decide) (fun K hK => ?_) (fun K hK => ?_)
     ·skip
      refine Kd.R_append_rows_step (Kd.int .u8) (w0 := w) w.heap.size (by rfl) (.tmp 15) (.tmp 17) 22 5 (.int .u8 0) 1 rfl Try.underlying22 info5 rfl (by decide) (by omega) v21363 y371 (l0.drop 4) _ _ _ (fun _ => True) (fun _ => False) rfl rfl ?aO ?aR (fun _ _ h => h) (fun _ h => h.elim) ?aF ?aB ?aS ?aL ?_
      (case aR => first | (have e_ := (Kd.C_below HR13644.out HB.out); rw [show (l0.drop 4).length = (l0.length - 4) from List.length_drop] at e_; exact e_) | (rw [← show (l0.drop 4).length = (l0.length - 4) from List.length_drop]; repeat (first | exact (Kd.C_below HR13644.out HB.out) | (with_reducible refine Kd.C_alloc ?_ _) | (with_reducible refine Kd.C_drewN ?_ _) | (with_reducible refine Kd.C_drew ?_))) | (repeat (first | exact (Kd.C_below HR13644.out HB.out) | (with_reducible refine Kd.C_alloc ?_ _) | (with_reducible refine Kd.C_drewN ?_ _) | (with_reducible refine Kd.C_drew ?_))))
      (case aB => exact (us_ HB.out))
      (case aF => exact (fun _ _ => trivial))
      (case aO => exact (Kd.ur_ HO373.out))
      (case aS => exact (below_size (us_ HB.out)))
      (case aL => have := LMc8.out; have hlx_ := (show (l0.drop 4).length = (l0.length - 4) from List.length_drop); omega)
      intro v21369 w21368 ho hb hg hat
      rw [← Ny375.out] at ho
      have n0_ := mk_ (blk_grown (g := gb13640) (o := .cells #[.int .i64 0, .int .i64 0, .slice none 0 0] 44 (0, 0)) (u_ BK368.out) hg (Kd.R_ne HO373.out BK368.out (by decide)))
      have n1_ := mk_ (hb)
      have n2_ := mk_ (ho)
      clear BK368
      clear HB
      clear HO373
      have BK368 := n0_
      have HB := n1_
      have HO377 := n2_
      clear n0_ n1_ n2_
      clear ho hb hg hat
      obtain ⟨Ao5090377, co5090377, eo5090377⟩ := Kd.R_slice HO377.out
      (first | subst eo5090377 | (injection eo5090377 with f1_ f2_ f3_; have f4_ := f1_.symm; have f5_ := f3_.symm; clear f1_ f2_ f3_; subst f4_; subst f5_))
      refine hK.out _ _ (((HB.out.cell (lc_ w _ hw369_0)).trans hw369_0)) (fun hHeld => ?_)
      clear hK K
      refine norm_ (a' := ?_) ?_ ?_
      rotate_left
      ·show Act.put _ (some 18) _ = _
       simp only [Act.put, la_, lz_, ls_, i64_w, i32_w]
       rfl
      refine pure_ (i := 10) (N := some 19) (v := ?_) (a' := ?_) #[T_, T_, T_, T_, T_, T_, T_, T_, T_, T_, T_, F_, F_] rfl rfl (any_of HT_.out (by kernel_rfl)) (fun _ _ _ h => h) (Or.inl ⟨by rfl, ?_⟩) ?_ ?_
      rotate_left
      ·intro w'
       go_simp
       with_reducible rfl
      rotate_left
      ·simp only [Act.put, la_, lz_, ls_, i64_w, i32_w]
       rfl
      exact norm_ (by first | (simp only [putAll, Act.put, la_, lz_, ls_]; done) | (simp only [putAll, Act.put, la_, lz_, ls_]; rfl)) (hJ5_6_9 (v21363, .slice Ao5090377 y375.length co5090377) _ ⟨hHeld, (Kd.ur_ HO377.out), (u_ BK368.out), (us_ HB.out)⟩)
     skip
     refine box_step ?hg (N := 4) ?hd (cs := #[.int .i64 0, .int .i64 0, .slice none 0 0]) (t := 44) ?hr ?_; (case hd => rfl); (case hg => rfl); (case hr => first | (go_simp; done) | (go_simp; rfl))
     intro gb21366 hg w21368 hbox hb
     have n0_ := mk_ (Kd.R_below (Kd.ur_ HO373.out) hb)
     have n1_ := mk_ (blk_below (u_ BK368.out) hb)
     have n2_ := mk_ (below_step (us_ HB.out) hb)
     have n3_ := mk_ (hbox)
     have n4_ := mk_ ((by rw [hg]; exact (below_size (us_ HB.out)) : w.heap.size ≤ gb21366))
     have n5_ := mk_ ((by rw [hg]; exact (below_size (us_ HB.out)) : w.heap.size ≤ gb21366))
     have n6_ := mk_ ((by rw [hg]; exact Nat.ne_of_lt (blk_lt (u_ BK368.out)) : gb13640 ≠ gb21366))
     have n7_ := mk_ ((by rw [hg]; exact Nat.ne_of_gt (blk_lt (u_ BK368.out)) : gb21366 ≠ gb13640))
     clear HO373
     clear BK368
     clear HB
     have HO373 := n0_
     have BK368 := n1_
     have HB := n2_
     have BK378 := n3_
     have GW378 := n4_
     have GE378 := ge_ n5_.out
     have NB368_378 := nq_ n6_.out
     have NB378_368 := nq_ n7_.out
     clear n0_ n1_ n2_ n3_ n4_ n5_ n6_ n7_
     clear hb hbox hg
     refine hK.out _ _ (((HB.out.cell (lc_ w _ hw369_0)).trans hw369_0)) (fun hHeld => ?_)
     clear hK K
     refine norm_ (a' := ?_) ?_ ?_
     rotate_left
     ·show Act.put _ (some 4) _ = _
      simp only [Act.put, la_, lz_, ls_, i64_w, i32_w]
      rfl
     exact norm_ (by first | (simp only [putAll, Act.put, la_, lz_, ls_]; done) | (simp only [putAll, Act.put, la_, lz_, ls_]; rfl)) (hJ5_6_11 (v21363, gb21366) _ ⟨hHeld, (Kd.ur_ HO373.out), (u_ BK368.out), (u_ BK378.out), GW378.out, GE378.out, NB368_378.out, NB378_368.out, (us_ HB.out)⟩)
    skip
    rintro ⟨v21363, gb21366⟩ w21368 ⟨hS_, h0_, h1_, h2_, h3_, h4_, h5_, h6_, h7_⟩
    have n0_ : Aside0 (Kd.R (Kd.int .u8) 5 w21368 w.heap.size (fun _ => True) v21363 y371) := ⟨h0_⟩
    have n1_ : Aside0 (w21368.heap[gb13640]? = some (.cells #[.int .i64 0, .int .i64 0, .slice none 0 0] 44 (0, 0))) := ⟨h1_⟩
    have n2_ : Aside0 (w21368.heap[gb21366]? = some (.cells #[.int .i64 0, .int .i64 0, .slice none 0 0] 44 (0, 0))) := ⟨h2_⟩
    have n3_ : Aside0 (w.heap.size ≤ gb21366) := ⟨h3_⟩
    have n4_ : Aside0 (w.heap.size ≤ gb21366) := ⟨h4_⟩
    have n5_ : Aside0 (gb13640 ≠ gb21366) := ⟨h5_⟩
    have n6_ : Aside0 (gb21366 ≠ gb13640) := ⟨h6_⟩
    have n7_ : Aside0 (Below w.heap.size w w21368) := ⟨h7_⟩
    clear BK368
    clear HB
    clear h0_ h1_ h2_ h3_ h4_ h5_ h6_ h7_
    have HO373 := n0_
    have BK368 := n1_
    have BK378 := n2_
    have GW378 := n3_
    have GE378 := ge_ n4_.out
    have NB368_378 := nq_ n5_.out
    have NB378_368 := nq_ n6_.out
    have HB := n7_
    clear n0_ n1_ n2_ n3_ n4_ n5_ n6_ n7_
    have hHeld : w21368.cell? ad18560 = some (.int .u8 (rd l0 0)) := hS_
    refine norm_ (a' := ?_) ?_ ?_
    rotate_left
    ·simp only [putAll, Act.put, la_, lz_, ls_]
     rfl
    refine one_ (i := 9) (N := some 18) #[T_, T_, T_, T_, T_, T_, T_, T_, T_, T_, F_, T_, F_] rfl rfl (one_of HT_.out (by kernel_rfl)) (by decide) (fun K hK => ?_)
    refine Kd.R_append_rows_step (Kd.int .u8) (w0 := w) w.heap.size (by rfl) (.tmp 15) (.tmp 17) 22 5 (.int .u8 0) 1 rfl Try.underlying22 info5 rfl (by decide) (by omega) v21363 y371 (l0.drop 4) _ _ _ (fun _ => True) (fun _ => False) rfl rfl ?aO ?aR (fun _ _ h => h) (fun _ h => h.elim) ?aF ?aB ?aS ?aL ?_
    (case aR => first | (have e_ := (Kd.C_below HR13644.out HB.out); rw [show (l0.drop 4).length = (l0.length - 4) from List.length_drop] at e_; exact e_) | (rw [← show (l0.drop 4).length = (l0.length - 4) from List.length_drop]; repeat (first | exact (Kd.C_below HR13644.out HB.out) | (with_reducible refine Kd.C_alloc ?_ _) | (with_reducible refine Kd.C_drewN ?_ _) | (with_reducible refine Kd.C_drew ?_))) | (repeat (first | exact (Kd.C_below HR13644.out HB.out) | (with_reducible refine Kd.C_alloc ?_ _) | (with_reducible refine Kd.C_drewN ?_ _) | (with_reducible refine Kd.C_drew ?_))))
    (case aB => exact (us_ HB.out))
    (case aF => exact (fun _ _ => trivial))
    (case aO => exact (Kd.ur_ HO373.out))
    (case aS => exact (below_size (us_ HB.out)))
    (case aL => have := LMc8.out; have hlx_ := (show (l0.drop 4).length = (l0.length - 4) from List.length_drop); omega)
    intro v21369 w5090377 ho hb hg hat
    rw [← Ny375.out] at ho
    have n0_ := mk_ (blk_grown (g := gb13640) (o := .cells #[.int .i64 0, .int .i64 0, .slice none 0 0] 44 (0, 0)) (u_ BK368.out) hg (Kd.R_ne HO373.out BK368.out (by decide)))
    have n1_ := mk_ (blk_grown (g := gb21366) (o := .cells #[.int .i64 0, .int .i64 0, .slice none 0 0] 44 (0, 0)) (u_ BK378.out) hg (Kd.R_ne HO373.out BK378.out (by decide)))
    have n2_ := mk_ (hb)
    have n3_ := mk_ (ho)
    clear BK368
    clear BK378
    clear HB
    clear HO373
    have BK368 := n0_
    have BK378 := n1_
    have HB := n2_
    have HO377 := n3_
    clear n0_ n1_ n2_ n3_
    clear ho hb hg hat
    obtain ⟨Ao5090377, co5090377, eo5090377⟩ := Kd.R_slice HO377.out
    (first | subst eo5090377 | (injection eo5090377 with f1_ f2_ f3_; have f4_ := f1_.symm; have f5_ := f3_.symm; clear f1_ f2_ f3_; subst f4_; subst f5_))
    refine hK.out _ _ (((HB.out.cell (lc_ w _ hw369_0)).trans hw369_0)) (fun hHeld => ?_)
    clear hK K
    refine norm_ (a' := ?_) ?_ ?_
    rotate_left
    ·show Act.put _ (some 18) _ = _
     simp only [Act.put, la_, lz_, ls_, i64_w, i32_w]
     rfl
    refine pure_ (i := 10) (N := some 19) (v := ?_) (a' := ?_) #[T_, T_, T_, T_, T_, T_, T_, T_, T_, T_, T_, T_, F_] rfl rfl (any_of HT_.out (by kernel_rfl)) (fun _ _ _ h => h) (Or.inl ⟨by rfl, ?_⟩) ?_ ?_
    rotate_left
    ·intro w'
     go_simp
     with_reducible rfl
    rotate_left
    ·simp only [Act.put, la_, lz_, ls_, i64_w, i32_w]
     rfl
    exact norm_ (by first | (simp only [putAll, Act.put, la_, lz_, ls_]; done) | (simp only [putAll, Act.put, la_, lz_, ls_]; rfl)) (hJ5_6_9_11 (v21363, .slice Ao5090377 y375.length co5090377, gb21366) _ ⟨hHeld, (Kd.ur_ HO377.out), (u_ BK368.out), (u_ BK378.out), GW378.out, GE378.out, NB368_378.out, NB378_368.out, (us_ HB.out)⟩)
   skip
   rintro ⟨v21363, v21369⟩ w5090377 ⟨hS_, h0_, h1_, h2_⟩
   have n0_ : Aside0 (Kd.R (Kd.int .u8) 5 w5090377 w.heap.size (fun _ => True) v21369 y375) := ⟨h0_⟩
   have n1_ : Aside0 (w5090377.heap[gb13640]? = some (.cells #[.int .i64 0, .int .i64 0, .slice none 0 0] 44 (0, 0))) := ⟨h1_⟩
   have n2_ : Aside0 (Below w.heap.size w w5090377) := ⟨h2_⟩
   clear BK368
   clear HB
   clear h0_ h1_ h2_
   have HO377 := n0_
   have BK368 := n1_
   have HB := n2_
   clear n0_ n1_ n2_
   have hHeld : w5090377.cell? ad18560 = some (.int .u8 (rd l0 0)) := hS_
   obtain ⟨Ao5090377, co5090377, eo5090377⟩ := Kd.R_slice HO377.out
   (first | subst eo5090377 | (injection eo5090377 with f1_ f2_ f3_; have f4_ := f1_.symm; have f5_ := f3_.symm; clear f1_ f2_ f3_; subst f4_; subst f5_))
   refine norm_ (a' := ?_) ?_ ?_
   rotate_left
   ·simp only [putAll, Act.put, la_, lz_, ls_]
    rfl
   refine one_ (i := 11) (N := some 4) #[T_, T_, T_, T_, T_, T_, T_, T_, T_, T_, T_, T_, F_] rfl rfl (one_of HT_.out (by kernel_rfl)) (by decide) (fun K hK => ?_)
   refine box_step ?hg (N := 4) ?hd (cs := #[.int .i64 0, .int .i64 0, .slice none 0 0]) (t := 44) ?hr ?_; (case hd => rfl); (case hg => rfl); (case hr => first | (go_simp; done) | (go_simp; rfl))
   intro gb21366 hg w21370 hbox hb
   have n0_ := mk_ (Kd.R_below (Kd.ur_ HO377.out) hb)
   have n1_ := mk_ (blk_below (u_ BK368.out) hb)
   have n2_ := mk_ (below_step (us_ HB.out) hb)
   have n3_ := mk_ (hbox)
   have n4_ := mk_ ((by rw [hg]; exact (below_size (us_ HB.out)) : w.heap.size ≤ gb21366))
   have n5_ := mk_ ((by rw [hg]; exact (below_size (us_ HB.out)) : w.heap.size ≤ gb21366))
   have n6_ := mk_ ((by rw [hg]; exact Nat.ne_of_lt (blk_lt (u_ BK368.out)) : gb13640 ≠ gb21366))
   have n7_ := mk_ ((by rw [hg]; exact Nat.ne_of_gt (blk_lt (u_ BK368.out)) : gb21366 ≠ gb13640))
   clear HO377
   clear BK368
   clear HB
   have HO377 := n0_
   have BK368 := n1_
   have HB := n2_
   have BK378 := n3_
   have GW378 := n4_
   have GE378 := ge_ n5_.out
   have NB368_378 := nq_ n6_.out
   have NB378_368 := nq_ n7_.out
   clear n0_ n1_ n2_ n3_ n4_ n5_ n6_ n7_
   clear hb hbox hg
   refine hK.out _ _ (((HB.out.cell (lc_ w _ hw369_0)).trans hw369_0)) (fun hHeld => ?_)
   clear hK K
   refine norm_ (a' := ?_) ?_ ?_
   rotate_left
   ·show Act.put _ (some 4) _ = _
    simp only [Act.put, la_, lz_, ls_, i64_w, i32_w]
    rfl
   exact norm_ (by first | (simp only [putAll, Act.put, la_, lz_, ls_]; done) | (simp only [putAll, Act.put, la_, lz_, ls_]; rfl)) (hJ5_6_9_11 (v21363, .slice Ao5090377 y375.length co5090377, gb21366) _ ⟨hHeld, (Kd.ur_ HO377.out), (u_ BK368.out), (u_ BK378.out), GW378.out, GE378.out, NB368_378.out, NB378_368.out, (us_ HB.out)⟩)
  rintro ⟨v21363, v21369, gb21366⟩ w5090377 ⟨hS_, h0_, h1_, h2_, h3_, h4_, h5_, h6_, h7_⟩
  have n0_ : Aside0 (Kd.R (Kd.int .u8) 5 w5090377 w.heap.size (fun _ => True) v21369 y375) := ⟨h0_⟩
  have n1_ : Aside0 (w5090377.heap[gb13640]? = some (.cells #[.int .i64 0, .int .i64 0, .slice none 0 0] 44 (0, 0))) := ⟨h1_⟩
  have n2_ : Aside0 (w5090377.heap[gb21366]? = some (.cells #[.int .i64 0, .int .i64 0, .slice none 0 0] 44 (0, 0))) := ⟨h2_⟩
  have n3_ : Aside0 (w.heap.size ≤ gb21366) := ⟨h3_⟩
  have n4_ : Aside0 (w.heap.size ≤ gb21366) := ⟨h4_⟩
  have n5_ : Aside0 (gb13640 ≠ gb21366) := ⟨h5_⟩
  have n6_ : Aside0 (gb21366 ≠ gb13640) := ⟨h6_⟩
  have n7_ : Aside0 (Below w.heap.size w w5090377) := ⟨h7_⟩
  clear BK368
  clear HB
  clear h0_ h1_ h2_ h3_ h4_ h5_ h6_ h7_
  have HO377 := n0_
  have BK368 := n1_
  have BK378 := n2_
  have GW378 := n3_
  have GE378 := ge_ n4_.out
  have NB368_378 := nq_ n5_.out
  have NB378_368 := nq_ n6_.out
  have HB := n7_
  clear n0_ n1_ n2_ n3_ n4_ n5_ n6_ n7_
  have hHeld : w5090377.cell? ad18560 = some (.int .u8 (rd l0 0)) := hS_
  obtain ⟨Ao21370, co21370, eo21370⟩ := Kd.R_slice HO377.out
  (first | subst eo21370 | (injection eo21370 with f1_ f2_ f3_; have f4_ := f1_.symm; have f5_ := f3_.symm; clear f1_ f2_ f3_; subst f4_; subst f5_))
  refine norm_ (a' := ?_) ?_ ?_
  rotate_left
  ·simp only [putAll, Act.put, la_, lz_, ls_]
   rfl
  refine one_ (i := 12) (N := none) #[T_, T_, T_, T_, T_, T_, T_, T_, T_, T_, T_, T_, T_] rfl rfl (one_of HT_.out (by kernel_rfl)) (by decide) (fun K hK => ?_)
  have hs14080 : w5090377.cell? ⟨gb21366, 0, none⟩ = some (.int .i64 0) := (blk_cell BK378.out 0).trans rfl
  have hfs14080 := blk_frozen BK378.out 0
  have hns14080_0 := NB368_378.out
  have hms14080_0 := NB378_368.out
  have hs14240 : w5090377.cell? ⟨gb21366, 1, none⟩ = some (.int .i64 0) := (blk_cell BK378.out 1).trans rfl
  have hfs14240 := blk_frozen BK378.out 1
  have hns14240_0 := NB368_378.out
  have hms14240_0 := NB378_368.out
  have hs15360 : w5090377.cell? ⟨gb21366, 2, none⟩ = some (.slice none 0 0) := (blk_cell BK378.out 2).trans rfl
  have hfs15360 := blk_frozen BK378.out 2
  have hns15360_0 := NB368_378.out
  have hms15360_0 := NB378_368.out
  refine skip_ (w1 := ?_) (by rfl) rfl ?_ ?_
  rotate_left
  ·go_simp
   rfl
  refine hK.out _ _ (((cell_far (p := ⟨gb21366, _, none⟩) (by first | exact (ne1_ (by have := lc_ _ _ hw369_0; first | rwa [add_block] at this | exact this) GW378.out) | (rw [add_block]; exact (ne1_ (by have := lc_ _ _ hw369_0; first | rwa [add_block] at this | exact this) GW378.out)) | (show (Addr.add _ _).block ≠ _; rw [add_block]; exact (ne1_ (by have := lc_ _ _ hw369_0; first | rwa [add_block] at this | exact this) GW378.out)) | (dsimp only; exact (ne1_ (by have := lc_ _ _ hw369_0; first | rwa [add_block] at this | exact this) GW378.out))) _).trans (((cell_far (p := ⟨gb21366, _, none⟩) (by first | exact (ne1_ (by have := lc_ _ _ hw369_0; first | rwa [add_block] at this | exact this) GW378.out) | (rw [add_block]; exact (ne1_ (by have := lc_ _ _ hw369_0; first | rwa [add_block] at this | exact this) GW378.out)) | (show (Addr.add _ _).block ≠ _; rw [add_block]; exact (ne1_ (by have := lc_ _ _ hw369_0; first | rwa [add_block] at this | exact this) GW378.out)) | (dsimp only; exact (ne1_ (by have := lc_ _ _ hw369_0; first | rwa [add_block] at this | exact this) GW378.out))) _).trans (((cell_far (p := ⟨gb21366, _, none⟩) (by first | exact (ne1_ (by have := lc_ _ _ hw369_0; first | rwa [add_block] at this | exact this) GW378.out) | (rw [add_block]; exact (ne1_ (by have := lc_ _ _ hw369_0; first | rwa [add_block] at this | exact this) GW378.out)) | (show (Addr.add _ _).block ≠ _; rw [add_block]; exact (ne1_ (by have := lc_ _ _ hw369_0; first | rwa [add_block] at this | exact this) GW378.out)) | (dsimp only; exact (ne1_ (by have := lc_ _ _ hw369_0; first | rwa [add_block] at this | exact this) GW378.out))) _).trans (hHeld))))))) (fun hHeld => ?_)
  clear hK K
  refine done_ (done_of HT_.out (by kernel_rfl)) ?_
  try go_wp2
  have n0_ : Aside0 (Kd.R (Kd.int .u8) 5 (((w5090377.setCell ⟨gb21366, 0, none⟩ (.int .i64 (wrap64 (rd l0 0)))).setCell ⟨gb21366, 1, none⟩ (.int .i64 t370)).setCell ⟨gb21366, 2, none⟩ (.slice Ao21370 y375.length co21370)) w.heap.size (fun _ => True) (.slice Ao21370 y375.length co21370) y375) := ⟨by (with_reducible repeat (first | apply Kd.R_alloc | apply Kd.R_drewN | apply Kd.R_drew)); exact Kd.R_mono (Kd.R_far (p := ⟨gb21366, 2, none⟩) (Kd.R_far (p := ⟨gb21366, 1, none⟩) (Kd.R_far (p := ⟨gb21366, 0, none⟩) (Kd.R_types HO377.out BK378.out (by decide)) (fun _ hk => hk.2) (.int .i64 (wrap64 (rd l0 0)))) (fun _ hk => hk.2) (.int .i64 t370)) (fun _ hk => hk.2) (.slice Ao21370 y375.length co21370)) (fun _ hk => trivial)⟩
  have n1_ : Aside0 ((((w5090377.setCell ⟨gb21366, 0, none⟩ (.int .i64 (wrap64 (rd l0 0)))).setCell ⟨gb21366, 1, none⟩ (.int .i64 t370)).setCell ⟨gb21366, 2, none⟩ (.slice Ao21370 y375.length co21370)).heap[gb13640]? = some (.cells #[.int .i64 0, .int .i64 0, .slice none 0 0] 44 (0, 0))) := ⟨uf_ BK368.out⟩
  have n2_ : Aside0 ((((w5090377.setCell ⟨gb21366, 0, none⟩ (.int .i64 (wrap64 (rd l0 0)))).setCell ⟨gb21366, 1, none⟩ (.int .i64 t370)).setCell ⟨gb21366, 2, none⟩ (.slice Ao21370 y375.length co21370)).heap[gb21366]? = some (.cells #[.int .i64 (wrap64 (rd l0 0)), .int .i64 t370, .slice Ao21370 y375.length co21370] 44 (0, 0))) := ⟨by (with_reducible repeat (first | refine bn_ ?_ _ | refine bw_ ?_ | refine ba_ ?_ _)); refine blk_put (cs := #[.int .i64 (wrap64 (rd l0 0)), .int .i64 t370, .slice none 0 0]) ?_ 2 _ rfl; (with_reducible repeat (first | refine bn_ ?_ _ | refine bw_ ?_ | refine ba_ ?_ _)); refine blk_put (cs := #[.int .i64 (wrap64 (rd l0 0)), .int .i64 0, .slice none 0 0]) ?_ 1 _ rfl; (with_reducible repeat (first | refine bn_ ?_ _ | refine bw_ ?_ | refine ba_ ?_ _)); refine blk_put (cs := #[.int .i64 0, .int .i64 0, .slice none 0 0]) ?_ 0 _ rfl; (with_reducible repeat (first | refine bn_ ?_ _ | refine bw_ ?_ | refine ba_ ?_ _)); exact BK378.out⟩
  have n3_ : Aside0 (Below w.heap.size w (((w5090377.setCell ⟨gb21366, 0, none⟩ (.int .i64 (wrap64 (rd l0 0)))).setCell ⟨gb21366, 1, none⟩ (.int .i64 t370)).setCell ⟨gb21366, 2, none⟩ (.slice Ao21370 y375.length co21370))) := ⟨us_ HB.out⟩
  (try clear HO377)
  (try clear BK368)
  (try clear BK378)
  (try clear HB)
  generalize (((w5090377.setCell ⟨gb21366, 0, none⟩ (.int .i64 (wrap64 (rd l0 0)))).setCell ⟨gb21366, 1, none⟩ (.int .i64 t370)).setCell ⟨gb21366, 2, none⟩ (.slice Ao21370 y375.length co21370)) = w20240 at n0_ n1_ n2_ n3_ ⊢
  have HO377 := n0_
  have BK368 := n1_
  have BK378 := n2_
  have HB := n3_
  clear n0_ n1_ n2_ n3_
  have n0_ := mk_ (Kd.R_drew HO377.out)
  have n1_ := mk_ (blk_drew BK368.out)
  have n2_ := mk_ (blk_drew BK378.out)
  have n3_ := mk_ (below_drew1 HB.out)
  clear HO377
  clear BK368
  clear BK378
  clear HB
  have HO377 := n0_
  have BK368 := n1_
  have BK378 := n2_
  have HB := n3_
  clear n0_ n1_ n2_ n3_
 ·refine start_ (n := 13) (S := fun w' => w'.cell? ⟨gb21366, 0, none⟩ = some (.int .i64 (wrap64 (rd l0 0))) ∧ w'.cell? ⟨gb21366, 1, none⟩ = some (.int .i64 t370) ∧ w'.cell? ⟨gb21366, 2, none⟩ = some (.slice Ao21370 y375.length co21370)) (ds := []) #[F_, F_, F_, F_, F_, F_, F_, F_, F_, F_, F_, F_, F_] (by kernel_rfl) rfl rfl ⟨(blk_cell BK378.out 0).trans rfl, (blk_cell BK378.out 1).trans rfl, (blk_cell BK378.out 2).trans rfl⟩ (fun hHeld => ?_); refine with_tabW spec_NoteFrom.tab4 spec_NoteFrom.bits4 (fun HT_ HW_ => ?_)
  generalize w20240.drew = w21520 at HO377 BK368 BK378 HB hHeld ⊢
  refine take_ (i := 0) (N := some 20) (v := ?_) (a' := ?_) #[T_, F_, F_, F_, F_, F_, F_, F_, F_, F_, F_, F_, F_] rfl rfl (take_ofW HT_.out HW_.out (by kernel_rfl)) (fun _ _ _ h => h) (Or.inl ⟨by rfl, ?_⟩) hHeld ?_ ?_
  rotate_left
  ·rintro w' ⟨s19200, s4200, s4201⟩
   go_simp
   with_reducible rfl
  rotate_left
  ·simp only [Act.put, la_, lz_, ls_, i64_w, i32_w]
   rfl
  refine one_ (i := 1) (N := some 21) #[T_, T_, F_, F_, F_, F_, F_, F_, F_, F_, F_, F_, F_] rfl rfl (one_of HT_.out (by kernel_rfl)) (by decide) (fun K hK => ?_)
  refine goes_ Try.func102 (by kernel_rfl) rfl #[.agg #[.int .i64 (wrap64 (rd l0 0)), .int .i64 t370, .slice Ao21370 y375.length co21370]] (by rfl) rfl rfl (by (try simp only [lm_, lo_, ln_]); try rfl) ?_
  with_reducible refine (spec_NoteOk.calls (wrap64 (rd l0 0)) t370 _ _ y375 false _ ?side1 ?side2 A9.out).mono ?_
  (case side1 => repeat (first | exact (Kd.R_reads' HO377.out).2.2 | (with_reducible refine Kd.C_alloc ?_ _) | (with_reducible refine Kd.C_drewN ?_ _) | (with_reducible refine Kd.C_drew ?_)))
  (case side2 => exact (Kd.R_reads' HO377.out).2.1)
  rintro e w21760 ⟨rfl, hb⟩
  refine ⟨_, rfl, ?_⟩
  have n0_ := mk_ (Kd.R_below (Kd.ur_ HO377.out) hb)
  have n1_ := mk_ (blk_below (u_ BK368.out) hb)
  have n2_ := mk_ (blk_below (u_ BK378.out) hb)
  have n3_ := mk_ (below_step (us_ HB.out) hb)
  clear HO377
  clear BK368
  clear BK378
  clear HB
  have HO377 := n0_
  have BK368 := n1_
  have BK378 := n2_
  have HB := n3_
  clear n0_ n1_ n2_ n3_
  (try clear hb)
  (try clear hb2)
  (try clear hk)
  (try clear hi)
  refine hK.out _ _ ⟨(blk_cell BK378.out 0).trans rfl, (blk_cell BK378.out 1).trans rfl, (blk_cell BK378.out 2).trans rfl⟩ (fun hHeld => ?_)
  clear hK K
  refine norm_ (a' := ?_) ?_ ?_
  rotate_left
  ·show Act.put _ (some 21) _ = _
   simp only [Act.put, la_, lz_, ls_, i64_w, i32_w]
   rfl
  refine pure_ (i := 2) (N := some 22) (v := ?_) (a' := ?_) #[T_, T_, T_, F_, F_, F_, F_, F_, F_, F_, F_, F_, F_] rfl rfl (any_of HT_.out (by kernel_rfl)) (fun _ _ _ h => h) (Or.inl ⟨by rfl, ?_⟩) ?_ ?_
  rotate_left
  ·intro w'
   go_simp
   with_reducible rfl
  rotate_left
  ·simp only [Act.put, la_, lz_, ls_, i64_w, i32_w]
   rfl
  refine pure_ (i := 3) (N := some 23) (v := ?_) (a' := ?_) #[T_, T_, T_, T_, F_, F_, F_, F_, F_, F_, F_, F_, F_] rfl rfl (any_of HT_.out (by kernel_rfl)) (fun _ _ _ h => h) (Or.inl ⟨by rfl, ?_⟩) ?_ ?_
  rotate_left
  ·intro w'
   go_simp
   with_reducible rfl
  rotate_left
  ·simp only [Act.put, la_, lz_, ls_, i64_w, i32_w]
   rfl
  refine pure_ (i := 4) (N := some 24) (v := undef) (a' := ?_) #[T_, T_, T_, T_, T_, F_, F_, F_, F_, F_, F_, F_, F_] rfl rfl (any_of HT_.out (by kernel_rfl)) (fun _ _ _ h => h) (Or.inr ⟨by rfl, rfl⟩) ?_ ?_
  rotate_left
  ·simp only [Act.put, la_, lz_, ls_, i64_w, i32_w]
   rfl
  refine pure_ (i := 5) (N := some 25) (v := undef) (a' := ?_) #[T_, T_, T_, T_, T_, T_, F_, F_, F_, F_, F_, F_, F_] rfl rfl (any_of HT_.out (by kernel_rfl)) (fun _ _ _ h => h) (Or.inr ⟨by rfl, rfl⟩) ?_ ?_
  rotate_left
  ·simp only [Act.put, la_, lz_, ls_, i64_w, i32_w]
   rfl
  refine pure_ (i := 6) (N := some 26) (v := undef) (a' := ?_) #[T_, T_, T_, T_, T_, T_, T_, F_, F_, F_, F_, F_, F_] rfl rfl (any_of HT_.out (by kernel_rfl)) (fun _ _ _ h => h) (Or.inr ⟨by rfl, rfl⟩) ?_ ?_
  rotate_left
  ·simp only [Act.put, la_, lz_, ls_, i64_w, i32_w]
   rfl
  refine pure_ (i := 7) (N := some 27) (v := undef) (a' := ?_) #[T_, T_, T_, T_, T_, T_, T_, T_, F_, F_, F_, F_, F_] rfl rfl (any_of HT_.out (by kernel_rfl)) (fun _ _ _ h => h) (Or.inr ⟨by rfl, rfl⟩) ?_ ?_
  rotate_left
  ·simp only [Act.put, la_, lz_, ls_, i64_w, i32_w]
   rfl
  refine pure_ (i := 8) (N := some 28) (v := undef) (a' := ?_) #[T_, T_, T_, T_, T_, T_, T_, T_, T_, F_, F_, F_, F_] rfl rfl (any_of HT_.out (by kernel_rfl)) (fun _ _ _ h => h) (Or.inr ⟨by rfl, rfl⟩) ?_ ?_
  rotate_left
  ·simp only [Act.put, la_, lz_, ls_, i64_w, i32_w]
   rfl
  refine pure_ (i := 9) (N := some 29) (v := undef) (a' := ?_) #[T_, T_, T_, T_, T_, T_, T_, T_, T_, T_, F_, F_, F_] rfl rfl (any_of HT_.out (by kernel_rfl)) (fun _ _ _ h => h) (Or.inr ⟨by rfl, rfl⟩) ?_ ?_
  rotate_left
  ·simp only [Act.put, la_, lz_, ls_, i64_w, i32_w]
   rfl
  refine pure_ (i := 10) (N := some 30) (v := undef) (a' := ?_) #[T_, T_, T_, T_, T_, T_, T_, T_, T_, T_, T_, F_, F_] rfl rfl (any_of HT_.out (by kernel_rfl)) (fun _ _ _ h => h) (Or.inr ⟨by rfl, rfl⟩) ?_ ?_
  rotate_left
  ·simp only [Act.put, la_, lz_, ls_, i64_w, i32_w]
   rfl
  refine pure_ (i := 11) (N := some 31) (v := undef) (a' := ?_) #[T_, T_, T_, T_, T_, T_, T_, T_, T_, T_, T_, T_, F_] rfl rfl (any_of HT_.out (by kernel_rfl)) (fun _ _ _ h => h) (Or.inr ⟨by rfl, rfl⟩) ?_ ?_
  rotate_left
  ·simp only [Act.put, la_, lz_, ls_, i64_w, i32_w]
   rfl
  refine pure_ (i := 12) (N := some 32) (v := ?_) (a' := ?_) #[T_, T_, T_, T_, T_, T_, T_, T_, T_, T_, T_, T_, T_] rfl rfl (any_of HT_.out (by kernel_rfl)) (fun _ _ _ h => h) (Or.inl ⟨by rfl, ?_⟩) ?_ ?_
  rotate_left
  ·intro w'
   go_simp
   with_reducible rfl
  rotate_left
  ·simp only [Act.put, la_, lz_, ls_, i64_w, i32_w]
   rfl
  refine done_ (done_of HT_.out (by kernel_rfl)) ?_
  have hnb4820368378 := NB368_378.out
  have hnc4820368378 := NB378_368.out
  obtain ⟨_, _, _, _, _, _⟩ := cells3_ BK368.out
  try go_wp2
  refine bodyPost_ret (results_ct rfl _ _ gb13640 44 #[.int .i64 0, .int .i64 0, .slice none 0 0] (0, 0) _ rfl (by (with_reducible repeat (first | refine bn_ ?_ _ | refine bw_ ?_ | refine ba_ ?_ _)); refine blk_put (cs := #[.int .i64 0, .int .i64 0, .slice none 0 0]) ?_ 2 _ rfl; (with_reducible repeat (first | refine bn_ ?_ _ | refine bw_ ?_ | refine ba_ ?_ _)); refine blk_put (cs := #[.int .i64 0, .int .i64 0, .slice none 0 0]) ?_ 1 _ rfl; (with_reducible repeat (first | refine bn_ ?_ _ | refine bw_ ?_ | refine ba_ ?_ _)); refine blk_put (cs := #[.int .i64 0, .int .i64 0, .slice none 0 0]) ?_ 0 _ rfl; (with_reducible repeat (first | refine bn_ ?_ _ | refine bw_ ?_ | refine ba_ ?_ _)); exact BK368.out) Try.underlying44 rfl (by kernel_rfl)) rfl ?_
  exact ⟨_, by first | rfl | (simp [errW_none, errW_some] <;> rfl) | (simp [*, errW_none, errW_some] <;> rfl), by first | exact Kd.R_nil _ _ _ _ _ | exact Kd.N_nil _ _ _ _ _ | exact Kd.V_nil _ _ _ _ _ | exact Kd.Q_nil _ _ _ _ _ | exact Kd.S_nil _ _ _ _ _, us_ HB.out⟩
 all_goals
  have p22560 : 0 ≤ (3 : Int) := (by omega)
  have q22560 : 3 < (l0.length : Int) := of_decide_eq_true (by first | (with_reducible assumption) | assumption)
  obtain ⟨ad22560, e22560, hx380_0⟩ := Kd.at_int HR0.out 3 p22560 q22560
  have hw380_0 := hx380_0
  (try rw [show ((3 : Int)).toNat = 3 from rfl] at hw380_0)
  (try rw [show 3 * 1 = 3 from rfl] at hw380_0)
  (try simp only [Nat.reduceMul, Nat.reduceEqDiff, Go.Addr.add, ↓reduceIte] at hw380_0)
  obtain rfl : ad18560 = ad22560 := (by injection e22560)
  (try simp only [show (3 : Int).toNat = 3 from rfl, Nat.reduceMul, Nat.reduceEqDiff, Go.Addr.add, ↓reduceIte] at hx380_0)
  have qi22560 : (3 < l0.length) = True := eq_true (by omega)
  (try rw [show ((3 : Int)).toNat = 3 from rfl] at hx380_0)
  replace hx380_0 := (HB.out.cell (lc_ w _ hx380_0)).trans hx380_0
  replace p22560 := eq_true p22560
  replace q22560 := eq_true q22560
  refine start_ (n := 13) (S := fun w' => w'.cell? ⟨gb21366, 0, none⟩ = some (.int .i64 (wrap64 (rd l0 0))) ∧ w'.cell? ⟨gb21366, 1, none⟩ = some (.int .i64 t370) ∧ w'.cell? ⟨gb21366, 2, none⟩ = some (.slice Ao21370 y375.length co21370) ∧ w'.cell? ⟨ad18560.block, ad18560.off + 3, none⟩ = some (.int .u8 (rd l0 3))) (ds := []) #[F_, F_, F_, F_, F_, F_, F_, F_, F_, F_, F_, F_, F_] (by kernel_rfl) rfl rfl ⟨(blk_cell BK378.out 0).trans rfl, (blk_cell BK378.out 1).trans rfl, (blk_cell BK378.out 2).trans rfl, ((HB.out.cell (lc_ w _ hw380_0)).trans hw380_0)⟩ (fun hHeld => ?_); refine with_tabW spec_NoteFrom.tab4 spec_NoteFrom.bits4 (fun HT_ HW_ => ?_)
  generalize w20240.drew = w23120 at HO377 BK368 BK378 HB hx380_0 hHeld ⊢
  refine take_ (i := 0) (N := some 20) (v := ?_) (a' := ?_) #[T_, F_, F_, F_, F_, F_, F_, F_, F_, F_, F_, F_, F_] rfl rfl (take_ofW HT_.out HW_.out (by kernel_rfl)) (fun _ _ _ h => h) (Or.inl ⟨by rfl, ?_⟩) hHeld ?_ ?_
  rotate_left
  ·rintro w' ⟨s19200, s23160, s23161, s23162⟩
   go_simp
   with_reducible rfl
  rotate_left
  ·simp only [Act.put, la_, lz_, ls_, i64_w, i32_w]
   rfl
  refine one_ (i := 1) (N := some 21) #[T_, T_, F_, F_, F_, F_, F_, F_, F_, F_, F_, F_, F_] rfl rfl (one_of HT_.out (by kernel_rfl)) (by decide) (fun K hK => ?_)
  refine goes_ Try.func102 (by kernel_rfl) rfl #[.agg #[.int .i64 (wrap64 (rd l0 0)), .int .i64 t370, .slice Ao21370 y375.length co21370]] (by rfl) rfl rfl (by (try simp only [lm_, lo_, ln_]); try rfl) ?_
  with_reducible refine (spec_NoteOk.calls (wrap64 (rd l0 0)) t370 _ _ y375 true _ ?side1 ?side2 A9.out).mono ?_
  (case side1 => repeat (first | exact (Kd.R_reads' HO377.out).2.2 | (with_reducible refine Kd.C_alloc ?_ _) | (with_reducible refine Kd.C_drewN ?_ _) | (with_reducible refine Kd.C_drew ?_)))
  (case side2 => exact (Kd.R_reads' HO377.out).2.1)
  rintro e w21760 ⟨rfl, hb⟩
  refine ⟨_, rfl, ?_⟩
  have n0_ := mk_ (Kd.R_below (Kd.ur_ HO377.out) hb)
  have n1_ := mk_ (blk_below (u_ BK368.out) hb)
  have n2_ := mk_ (blk_below (u_ BK378.out) hb)
  have n3_ := mk_ (below_step (us_ HB.out) hb)
  clear HO377
  clear BK368
  clear BK378
  clear HB
  have HO377 := n0_
  have BK368 := n1_
  have BK378 := n2_
  have HB := n3_
  clear n0_ n1_ n2_ n3_
  (try clear hb)
  (try clear hb2)
  (try clear hk)
  (try clear hi)
  refine hK.out _ _ ⟨(blk_cell BK378.out 0).trans rfl, (blk_cell BK378.out 1).trans rfl, (blk_cell BK378.out 2).trans rfl, ((HB.out.cell (lc_ w _ hw380_0)).trans hw380_0)⟩ (fun hHeld => ?_)
  clear hK K
  refine norm_ (a' := ?_) ?_ ?_
  rotate_left
  ·show Act.put _ (some 21) _ = _
   simp only [Act.put, la_, lz_, ls_, i64_w, i32_w]
   rfl
  refine pure_ (i := 2) (N := some 22) (v := ?_) (a' := ?_) #[T_, T_, T_, F_, F_, F_, F_, F_, F_, F_, F_, F_, F_] rfl rfl (any_of HT_.out (by kernel_rfl)) (fun _ _ _ h => h) (Or.inl ⟨by rfl, ?_⟩) ?_ ?_
  rotate_left
  ·intro w'
   go_simp
   with_reducible rfl
  rotate_left
  ·simp only [Act.put, la_, lz_, ls_, i64_w, i32_w]
   rfl
  refine pure_ (i := 3) (N := some 23) (v := ?_) (a' := ?_) #[T_, T_, T_, T_, F_, F_, F_, F_, F_, F_, F_, F_, F_] rfl rfl (any_of HT_.out (by kernel_rfl)) (fun _ _ _ h => h) (Or.inl ⟨by rfl, ?_⟩) ?_ ?_
  rotate_left
  ·intro w'
   go_simp
   with_reducible rfl
  rotate_left
  ·simp only [Act.put, la_, lz_, ls_, i64_w, i32_w]
   rfl
  refine pure_ (i := 4) (N := some 24) (v := ?_) (a' := ?_) #[T_, T_, T_, T_, T_, F_, F_, F_, F_, F_, F_, F_, F_] rfl rfl (any_of HT_.out (by kernel_rfl)) (fun _ _ _ h => h) (Or.inl ⟨by rfl, ?_⟩) ?_ ?_
  rotate_left
  ·intro w'
   go_simp
   with_reducible rfl
  rotate_left
  ·simp only [Act.put, la_, lz_, ls_, i64_w, i32_w]
   rfl
  refine pure_ (i := 5) (N := some 25) (v := ?_) (a' := ?_) #[T_, T_, T_, T_, T_, T_, F_, F_, F_, F_, F_, F_, F_] rfl rfl (any_of HT_.out (by kernel_rfl)) (fun _ _ _ h => h) (Or.inl ⟨by rfl, ?_⟩) ?_ ?_
  rotate_left
  ·intro w'
   go_simp
   with_reducible rfl
  rotate_left
  ·simp only [Act.put, la_, lz_, ls_, i64_w, i32_w]
   rfl
  refine pure_ (i := 8) (N := some 28) (v := ?_) (a' := ?_) #[T_, T_, T_, T_, T_, T_, F_, F_, T_, F_, F_, F_, F_] rfl rfl (any_of HT_.out (by kernel_rfl)) (fun _ _ _ h => h) (Or.inl ⟨by rfl, ?_⟩) ?_ ?_
  rotate_left
  ·intro w'
   go_simp
   with_reducible rfl
  rotate_left
  ·simp only [Act.put, la_, lz_, ls_, i64_w, i32_w]
   rfl
  refine take_ (i := 6) (N := some 26) (v := ?_) (a' := ?_) #[T_, T_, T_, T_, T_, T_, T_, F_, T_, F_, F_, F_, F_] rfl rfl (take_ofW HT_.out HW_.out (by kernel_rfl)) (fun _ _ _ h => h) (Or.inl ⟨by rfl, ?_⟩) hHeld ?_ ?_
  rotate_left
  ·rintro w' ⟨s19200, s23160, s23161, s23162⟩
   go_simp
   with_reducible rfl
  rotate_left
  ·simp only [Act.put, la_, lz_, ls_, i64_w, i32_w]
   rfl
  refine pure_ (i := 7) (N := some 27) (v := ?_) (a' := ?_) #[T_, T_, T_, T_, T_, T_, T_, T_, T_, F_, F_, F_, F_] rfl rfl (any_of HT_.out (by kernel_rfl)) (fun _ _ _ h => h) (Or.inl ⟨by rfl, ?_⟩) ?_ ?_
  rotate_left
  ·intro w'
   go_simp
   with_reducible rfl
  rotate_left
  ·simp only [Act.put, la_, lz_, ls_, i64_w, i32_w]
   rfl
  refine take_ (i := 9) (N := some 29) (v := ?_) (a' := ?_) #[T_, T_, T_, T_, T_, T_, T_, T_, T_, T_, F_, F_, F_] rfl rfl (take_ofW HT_.out HW_.out (by kernel_rfl)) (fun _ _ _ h => h) (Or.inl ⟨by rfl, ?_⟩) hHeld ?_ ?_
  rotate_left
  ·rintro w' ⟨s19200, s23160, s23161, s23162⟩
   go_simp
   with_reducible rfl
  rotate_left
  ·simp only [Act.put, la_, lz_, ls_, i64_w, i32_w]
   rfl
  refine pure_ (i := 10) (N := some 30) (v := ?_) (a' := ?_) #[T_, T_, T_, T_, T_, T_, T_, T_, T_, T_, T_, F_, F_] rfl rfl (any_of HT_.out (by kernel_rfl)) (fun _ _ _ h => h) (Or.inl ⟨by rfl, ?_⟩) ?_ ?_
  rotate_left
  ·intro w'
   go_simp
   with_reducible rfl
  rotate_left
  ·simp only [Act.put, la_, lz_, ls_, i64_w, i32_w]
   rfl
  refine pure_ (i := 11) (N := some 31) (v := ?_) (a' := ?_) #[T_, T_, T_, T_, T_, T_, T_, T_, T_, T_, T_, T_, F_] rfl rfl (any_of HT_.out (by kernel_rfl)) (fun _ _ _ h => h) (Or.inl ⟨by rfl, ?_⟩) ?_ ?_
  rotate_left
  ·intro w'
   go_simp
   with_reducible rfl
  rotate_left
  ·simp only [Act.put, la_, lz_, ls_, i64_w, i32_w]
   rfl
  refine pure_ (i := 12) (N := some 32) (v := ?_) (a' := ?_) #[T_, T_, T_, T_, T_, T_, T_, T_, T_, T_, T_, T_, T_] rfl rfl (any_of HT_.out (by kernel_rfl)) (fun _ _ _ h => h) (Or.inl ⟨by rfl, ?_⟩) ?_ ?_
  rotate_left
  ·intro w'
   go_simp
   with_reducible rfl
  rotate_left
  ·simp only [Act.put, la_, lz_, ls_, i64_w, i32_w]
   rfl
  refine done_ (done_of HT_.out (by kernel_rfl)) ?_
 ·have hnb4820368378 := NB368_378.out
  have hnc4820368378 := NB378_368.out
  obtain ⟨_, _, _, _, _, _⟩ := cells3_ BK368.out
  try go_wp2
  refine bodyPost_ret (results_ct rfl _ _ gb13640 44 #[.int .i64 0, .int .i64 0, .slice none 0 0] (0, 0) _ rfl (by (with_reducible repeat (first | refine bn_ ?_ _ | refine bw_ ?_ | refine ba_ ?_ _)); refine blk_put (cs := #[.int .i64 0, .int .i64 0, .slice none 0 0]) ?_ 2 _ rfl; (with_reducible repeat (first | refine bn_ ?_ _ | refine bw_ ?_ | refine ba_ ?_ _)); refine blk_put (cs := #[.int .i64 0, .int .i64 0, .slice none 0 0]) ?_ 1 _ rfl; (with_reducible repeat (first | refine bn_ ?_ _ | refine bw_ ?_ | refine ba_ ?_ _)); refine blk_put (cs := #[.int .i64 0, .int .i64 0, .slice none 0 0]) ?_ 0 _ rfl; (with_reducible repeat (first | refine bn_ ?_ _ | refine bw_ ?_ | refine ba_ ?_ _)); exact BK368.out) Try.underlying44 rfl (by kernel_rfl)) rfl ?_
  exact ⟨_, by first | rfl | (simp [errW_none, errW_some] <;> rfl) | (simp [*, errW_none, errW_some] <;> rfl), by first | exact Kd.R_nil _ _ _ _ _ | exact Kd.N_nil _ _ _ _ _ | exact Kd.V_nil _ _ _ _ _ | exact Kd.Q_nil _ _ _ _ _ | exact Kd.S_nil _ _ _ _ _, us_ HB.out⟩
 ·have hnb4820368378 := NB378_368.out
  have hnc4820368378 := NB368_378.out
  obtain ⟨_, _, _, _, _, _⟩ := cells3_ BK378.out
  obtain ⟨_, _, _, _, _, _⟩ := cells3_ BK368.out
  try go_wp2
  refine bodyPost_ret (results_ct rfl _ _ gb13640 44 #[.int .i64 (wrap64 (rd l0 0)), .int .i64 t370, .slice Ao21370 y375.length co21370] (0, 0) _ rfl (by (with_reducible repeat (first | refine bn_ ?_ _ | refine bw_ ?_ | refine ba_ ?_ _)); refine blk_put (cs := #[.int .i64 (wrap64 (rd l0 0)), .int .i64 t370, .slice none 0 0]) ?_ 2 _ rfl; (with_reducible repeat (first | refine bn_ ?_ _ | refine bw_ ?_ | refine ba_ ?_ _)); refine blk_put (cs := #[.int .i64 (wrap64 (rd l0 0)), .int .i64 0, .slice none 0 0]) ?_ 1 _ rfl; (with_reducible repeat (first | refine bn_ ?_ _ | refine bw_ ?_ | refine ba_ ?_ _)); refine blk_put (cs := #[.int .i64 0, .int .i64 0, .slice none 0 0]) ?_ 0 _ rfl; (with_reducible repeat (first | refine bn_ ?_ _ | refine bw_ ?_ | refine ba_ ?_ _)); exact BK368.out) Try.underlying44 rfl (by kernel_rfl)) rfl ?_
  exact ⟨_, by first | rfl | (simp [errW_none, errW_some] <;> rfl) | (simp [*, errW_none, errW_some] <;> rfl), by (with_reducible repeat (first | apply Kd.R_alloc | apply Kd.R_drewN | apply Kd.R_drew)); exact Kd.R_mono (Kd.R_far (p := ⟨gb13640, 2, none⟩) (Kd.R_far (p := ⟨gb13640, 1, none⟩) (Kd.R_far (p := ⟨gb13640, 0, none⟩) (Kd.R_types HO377.out BK368.out (by decide)) (fun _ hk => hk.2) (.int .i64 (wrap64 (rd l0 0)))) (fun _ hk => hk.2) (.int .i64 t370)) (fun _ hk => hk.2) (.slice Ao21370 y375.length co21370)) (fun _ hk => trivial), us_ HB.out⟩

end Go.Proofs.Ytkkibccnpkbbjab.MFnNoteEchoed
