/- Functions that the law FnNoteAbout reaches, each with the proof that the machine's call comes to just its answer; no conditions but those that each theorem states. Printed by a program of this session over the kit's print. -/
import Derived.Test.YtkkibccnpkbbjabMFnNoteAboutx0
import Derived.Test.YtkkibccnpkbbjabMFnNoteAboutx5
import Derived.Test.YtkkibccnpkbbjabMFnNoteAboutx12
namespace Go.Proofs.Ytkkibccnpkbbjab.MFnNoteAbout
open Go.RowKit Go.Proofs.YtkkibccnpkbbjabV.PrintWords Go.Proofs.YtkkibccnpkbbjabV.PrintLast Go.Proofs.YtkkibccnpkbbjabV.PrintMore
attribute [local go_sem] max2_int min2_int max_two min_two max_three min_three max_four min_four   -- for this text's walks alone
set_option linter.unusedVariables false
set_option linter.unusedSimpArgs false

/-! ### spec_NoteFrom: function 59 -/
def spec_NoteFrom.f (k : Nat) (l0 : List Int) : Option (Int × Int × List Int × Bool) := if (l0.length : Int) < 4 then (some (0, 0, ([] : List Int), false)) else (if 0 < (l0.length : Int) then ((spec_NumberAt.f k l0 1 2).bind fun t486 => ((some (([] : List Int) : List Int)).bind fun y487 => (if 4 ≤ (l0.length : Int) then (if y487.length + (l0.drop 4).length < 140737488355328 then ((some (y487 ++ (l0.drop 4) : List Int)).bind fun y491 => ((spec_NoteOk.f (wrap64 (rd l0 0)) t486 y491).bind fun t495 => (if t495 = true then (if 3 < (l0.length : Int) then (if (wrap64 (rd l0 3)) = (y491.length : Int) then (some (wrap64 (rd l0 0), t486, y491, true)) else (some (0, 0, ([] : List Int), false))) else (none)) else (some (0, 0, ([] : List Int), false))))) else (none)) else (none)))) else (none))
theorem spec_NoteFrom.mono : ∀ a0 k, LeO (spec_NoteFrom.f k a0) (spec_NoteFrom.f (k + 1) a0) := by
 intro a0 k
 unfold spec_NoteFrom.f
 repeat' first
   | (with_reducible exact spec_NumberAt.mono _ _ _ _)
   | (with_reducible exact LeO.refl _)
   | (with_reducible exact LeO.none _)
   | (with_reducible refine LeO.ite ?_ ?_)
   | (with_reducible refine LeO.bind ?_ (fun _ => ?_))
   | exact spec_NumberAt.mono _ _ _ _
   | exact LeO.none _
   | refine LeO.ite ?_ ?_
   | refine LeO.bind ?_ (fun _ => ?_)
def spec_NoteFrom.T3 : Bool × List (List Nat × List Nat) := (true, [([], []), ([0], [0]), ([1], [1]), ([2], [2]), ([], []), ([4], [4]), ([], []), ([], []), ([7], [7]), ([6, 8, 5], [6, 8]), ([3, 5, 9], [3, 5, 9]), ([], []), ([11, 10, 9, 0, 1, 2, 3, 4, 5, 6, 7, 8, 9, 10, 11], [10, 11])])
def spec_NoteFrom.B3 : List Nat := [0, 1, 3, 7, 0, 16, 0, 0, 128, 496, 1023, 0, 4095]
theorem spec_NoteFrom.tab3 : rtab .any (opsOf Try.f59 3) = spec_NoteFrom.T3 := by kernel_rfl
theorem spec_NoteFrom.bits3 : waitsOk spec_NoteFrom.T3.2 spec_NoteFrom.B3 = true := by kernel_rfl
def spec_NoteFrom.T4 : Bool × List (List Nat × List Nat) := (true, [([], []), ([0], [0]), ([1], [1]), ([2, 1], [2]), ([3], [3]), ([4, 3], [3, 4]), ([5, 3], [3, 5]), ([6, 3], [3, 6]), ([3], [3]), ([8, 3], [3, 8]), ([9, 3], [3, 9]), ([7, 10, 3], [3, 7, 10]), ([3, 11], [3, 11])])
def spec_NoteFrom.B4 : List Nat := [0, 1, 3, 7, 15, 31, 63, 127, 15, 271, 783, 2047, 4095]
theorem spec_NoteFrom.tab4 : rtab .any (opsOf Try.f59 4) = spec_NoteFrom.T4 := by kernel_rfl
theorem spec_NoteFrom.bits4 : waitsOk spec_NoteFrom.T4.2 spec_NoteFrom.B4 = true := by kernel_rfl
set_option maxHeartbeats 8000000 in
set_option maxRecDepth 100000 in
theorem spec_NoteFrom.calls (k : Nat) (A0 : Option Addr) (c0 : Nat) (l0 : List Int) (r1 : Int) (r2 : Int) (r3 : List Int) (r4 : Bool) (w : World) (hr0 : Kd.C (Kd.int .u8) w A0 l0.length l0) (hc0 : l0.length ≤ c0) (h : spec_NoteFrom.f k l0 = some (r1, r2, r3, r4)) :
  Calls Try.prog 59 #[.slice A0 l0.length c0] w fun e w' => ∃ v2_ : Value, e = .returned (.tuple #[.agg #[.int .i64 r1, .int .i64 r2, v2_], .bool r4]) ∧ Kd.R (Kd.int .u8) 5 w' w.heap.size (fun _ => True) v2_ r3 ∧ Below w.heap.size w w' := by
 have hu44 := Try.underlying44
 have HR0 := mk_ hr0
 have HC0 := mk_ hc0
 clear hr0 hc0
 have HB := mk_ (Below.refl w.heap.size w)
 have H := h
 unfold spec_NoteFrom.f at H
 clear h
 by_cases c2 : (l0.length : Int) < 4
 focus
  rw [if_pos c2] at H
  have c2b0 : decide ((l0.length : Int) < 4) = true := decide_eq_true c2
  have c2b1 : decide (l0.length < 4) = true := decide_eq_true (by omega)
  clear c2
  simp only [Option.some.injEq, Prod.mk.injEq] at H
  obtain ⟨rfl, rfl, rfl, rfl⟩ := H
 rotate_left
 focus
  rw [if_neg c2] at H
  have c2b0 : decide ((l0.length : Int) < 4) = false := decide_eq_false c2
  have c2b1 : decide (l0.length < 4) = false := decide_eq_false (by omega)
  clear c2
  by_cases c5 : 0 < (l0.length : Int)
  rotate_left
  ·rw [if_neg c5] at H
   exact absurd H (by simp)
  rw [if_pos c5] at H
  have c5b0 : decide (0 < (l0.length : Int)) = true := decide_eq_true c5
  have c5b1 : decide (0 < l0.length) = true := decide_eq_true (by omega)
  clear c5
  replace H := Option.bind_eq_some_iff.mp H
  obtain ⟨t486, A60, H⟩ := H
  (try dsimp only at H)
  have A6 := mk_ A60
  clear A60
  obtain ⟨y487, hy487⟩ : ∃ y_ : List Int, y_ = (([] : List Int)) := ⟨_, rfl⟩
  replace H : (if 4 ≤ (l0.length : Int) then (if y487.length + (l0.drop 4).length < 140737488355328 then ((some (y487 ++ (l0.drop 4) : List Int)).bind fun y491 => ((spec_NoteOk.f (wrap64 (rd l0 0)) t486 y491).bind fun t495 => (if t495 = true then (if 3 < (l0.length : Int) then (if (wrap64 (rd l0 3)) = (y491.length : Int) then (some (wrap64 (rd l0 0), t486, y491, true)) else (some (0, 0, ([] : List Int), false))) else (none)) else (some (0, 0, ([] : List Int), false))))) else (none)) else (none)) = some (r1, r2, r3, r4) := by first | (rw [hy487]; with_reducible exact H) | (have H2_ := (Option.bind_some _ _).symm.trans H; rw [hy487]; with_reducible exact H2_) | (have H2_ := (Option.bind_some _ _).symm.trans H; with_reducible exact H2_) | with_reducible exact H | (rw [hy487]; exact H) | exact H
  have Ny487 := mk_ hy487
  clear hy487
  by_cases c7 : 4 ≤ (l0.length : Int)
  rotate_left
  ·rw [if_neg c7] at H
   exact absurd H (by simp)
  rw [if_pos c7] at H
  have c7b0 := eq_true c7
  have c7b1 : decide (4 ≤ (l0.length : Int)) = true := decide_eq_true c7
  clear c7
  by_cases c8 : y487.length + (l0.drop 4).length < 140737488355328
  rotate_left
  ·rw [if_neg c8] at H
   exact absurd H (by simp)
  rw [if_pos c8] at H
  have LMc8 := mk_ c8
  clear c8
  obtain ⟨y491, hy491⟩ : ∃ y_ : List Int, y_ = (y487 ++ (l0.drop 4)) := ⟨_, rfl⟩
  replace H : ((spec_NoteOk.f (wrap64 (rd l0 0)) t486 y491).bind fun t495 => (if t495 = true then (if 3 < (l0.length : Int) then (if (wrap64 (rd l0 3)) = (y491.length : Int) then (some (wrap64 (rd l0 0), t486, y491, true)) else (some (0, 0, ([] : List Int), false))) else (none)) else (some (0, 0, ([] : List Int), false)))) = some (r1, r2, r3, r4) := by first | (rw [hy491]; with_reducible exact H) | (have H2_ := (Option.bind_some _ _).symm.trans H; rw [hy491]; with_reducible exact H2_) | (have H2_ := (Option.bind_some _ _).symm.trans H; with_reducible exact H2_) | with_reducible exact H | (rw [hy491]; exact H) | exact H
  have Ny491 := mk_ hy491
  clear hy491
  replace H := Option.bind_eq_some_iff.mp H
  obtain ⟨t495, A90, H⟩ := H
  (try dsimp only at H)
  have A9 := mk_ A90
  clear A90
  by_cases c10 : t495 = true
  rotate_left
  focus
   replace c10 := Bool.eq_false_iff.mpr c10
   subst c10
   rw [if_neg (show ¬ (false = true) by decide)] at H
   simp only [Option.some.injEq, Prod.mk.injEq] at H
   obtain ⟨rfl, rfl, rfl, rfl⟩ := H
  rotate_left
  focus
   subst c10
   rw [if_pos rfl] at H
   by_cases c11 : 3 < (l0.length : Int)
   rotate_left
   ·rw [if_neg c11] at H
    exact absurd H (by simp)
   rw [if_pos c11] at H
   have c11b0 : decide (3 < (l0.length : Int)) = true := decide_eq_true c11
   have c11b1 : decide (3 < l0.length) = true := decide_eq_true (by omega)
   clear c11
   by_cases c12 : (wrap64 (rd l0 3)) = (y491.length : Int)
   rotate_left
   focus
    rw [if_neg c12] at H
    have c12b0 : ((wrap64 (rd l0 3)) == (y491.length : Int)) = false := beq_eq_false_iff_ne.mpr c12
    have c12b1 : ((wrap64 (rd l0 3)) != (y491.length : Int)) = true := bne_iff_ne.mpr c12
    simp only [Option.some.injEq, Prod.mk.injEq] at H
    obtain ⟨rfl, rfl, rfl, rfl⟩ := H
   rotate_left
   focus
    rw [if_pos c12] at H
    have c12b0 : ((wrap64 (rd l0 3)) == (y491.length : Int)) = true := beq_iff_eq.mpr c12
    have c12b1 : ((wrap64 (rd l0 3)) != (y491.length : Int)) = false := bne_eq_false_iff_eq.mpr c12
    clear c12
    simp only [Option.some.injEq, Prod.mk.injEq] at H
    obtain ⟨rfl, rfl, rfl, rfl⟩ := H
   rotate_left
  rotate_left 2
 rotate_left 3
 all_goals
  go_enter Try.func59, Try.ntmps59
 have z21_ := trivial
 rotate_left
 have z22_ := trivial
 rotate_left
 have z22_ := trivial
 rotate_left
 have z22_ := trivial
 rotate_left
 all_goals
  try go_wp2_with (first | (have zz_ := z21_; clear zz_; (with_reducible refine gate_dst (N := 2) rfl ?_); refine box_event ?hg (N := 2) ?hd (cs := #[.int .i64 0, .int .i64 0, .slice none 0 0]) (t := 44) ?hr ?_; (case hd => rfl); (case hg => rfl); (case hr => first | (go_simp; done) | (go_simp; rfl)); intro gb13240 hg w13241 hbox hb; have n0_ := mk_ (below_step (ub_ HB.out) hb); have BK484 := mk_ (hbox); have GW484 := mk_ ((by rw [hg]; exact (below_size (ub_ HB.out)) : w.heap.size ≤ gb13240)); have GE484 := ge_ ((by rw [hg]; exact (below_size (ub_ HB.out)) : w.heap.size ≤ gb13240)); replace HB := n0_; clear n0_; clear hb hbox hg; obtain ⟨_, _, _, _, _, _⟩ := cells3_ BK484.out) | (have zz_ := z22_; clear zz_; (with_reducible refine gate_dst (N := 2) rfl ?_); refine box_event ?hg (N := 2) ?hd (cs := #[.int .i64 0, .int .i64 0, .slice none 0 0]) (t := 44) ?hr ?_; (case hd => rfl); (case hg => rfl); (case hr => first | (go_simp; done) | (go_simp; rfl)); intro gb13240 hg w13241 hbox hb; have n0_ := mk_ (below_step (ub_ HB.out) hb); have BK484 := mk_ (hbox); have GW484 := mk_ ((by rw [hg]; exact (below_size (ub_ HB.out)) : w.heap.size ≤ gb13240)); have GE484 := ge_ ((by rw [hg]; exact (below_size (ub_ HB.out)) : w.heap.size ≤ gb13240)); replace HB := n0_; clear n0_; clear hb hbox hg; obtain ⟨i13242, hi13242, _, hsz13243, _⟩ := info_parts info5; obtain ⟨A13243, hcut13243, hA13243, hC13243⟩ := print_drop_of (P := Try.prog) (Value.int .u8) 0 22 5 .i64 Try.underlying22 hi13242 hsz13243 A0 c0 l0 4 (by omega) (of_decide_eq_true (by first | (with_reducible assumption) | assumption)) HC0.out; have HR13244 := mk_ (Kd.C_of_reads (h1 := fun _ => rfl) (hA13243 _ (Kd.reads_of_C HR0.out))); have HC13244 := mk_ hC13243; clear hA13243 hC13243 hi13242 hsz13243))
 ·refine bodyPost_ret (results_ct rfl _ _ gb13240 44 #[.int .i64 0, .int .i64 0, .slice none 0 0] (0, 0) _ rfl (by (with_reducible repeat (first | refine bn_ ?_ _ | refine bw_ ?_ | refine ba_ ?_ _)); refine blk_put (cs := #[.int .i64 0, .int .i64 0, .slice none 0 0]) ?_ 2 _ rfl; (with_reducible repeat (first | refine bn_ ?_ _ | refine bw_ ?_ | refine ba_ ?_ _)); refine blk_put (cs := #[.int .i64 0, .int .i64 0, .slice none 0 0]) ?_ 1 _ rfl; (with_reducible repeat (first | refine bn_ ?_ _ | refine bw_ ?_ | refine ba_ ?_ _)); refine blk_put (cs := #[.int .i64 0, .int .i64 0, .slice none 0 0]) ?_ 0 _ rfl; (with_reducible repeat (first | refine bn_ ?_ _ | refine bw_ ?_ | refine ba_ ?_ _)); exact BK484.out) Try.underlying44 rfl (by kernel_rfl)) rfl ?_
  exact ⟨_, by first | rfl | (simp [errW_none, errW_some] <;> rfl) | (simp [*, errW_none, errW_some] <;> rfl), by first | exact Kd.R_nil _ _ _ _ _ | exact Kd.N_nil _ _ _ _ _ | exact Kd.V_nil _ _ _ _ _ | exact Kd.Q_nil _ _ _ _ _ | exact Kd.S_nil _ _ _ _ _, us_ HB.out⟩
 all_goals
  have n0_ := mk_ (blk_drew BK484.out)
  have n1_ := mk_ (below_drew1 HB.out)
  clear BK484
  clear HB
  have BK484 := n0_
  have HB := n1_
  clear n0_ n1_
  have p13320 : 0 ≤ (0 : Int) := (by omega)
  have q13320 : 0 < (l0.length : Int) := of_decide_eq_true (by first | (with_reducible assumption) | assumption)
  obtain ⟨ad13320, e13320, hx485_0⟩ := Kd.at_int HR0.out 0 p13320 q13320
  have hw485_0 := hx485_0
  (try rw [show ((0 : Int)).toNat = 0 from rfl] at hw485_0)
  (try rw [show 0 * 1 = 0 from rfl] at hw485_0)
  (try rw [Addr.add_zero'] at hw485_0)
  cases e13320
  have qi13320 : (0 < l0.length) = True := eq_true (by omega)
  (try rw [show ((0 : Int)).toNat = 0 from rfl] at hx485_0)
  (try rw [Addr.add_zero'] at hx485_0)
  replace hx485_0 := (HB.out.cell (lc_ w _ hx485_0)).trans hx485_0
  replace p13320 := eq_true p13320
  replace q13320 := eq_true q13320
  refine start_ (n := 13) (S := fun w' => w'.cell? ad13320 = some (.int .u8 (rd l0 0))) (ds := []) #[F_, F_, F_, F_, F_, F_, F_, F_, F_, F_, F_, F_, F_] (by kernel_rfl) rfl rfl (((HB.out.cell (lc_ w _ hw485_0)).trans hw485_0)) (fun hHeld => ?_); refine with_tabW spec_NoteFrom.tab3 spec_NoteFrom.bits3 (fun HT_ HW_ => ?_)
  generalize w13241.drew = w13880 at BK484 HB hx485_0 hHeld ⊢
  refine pure_ (i := 0) (N := some 9) (v := ?_) (a' := ?_) #[T_, F_, F_, F_, F_, F_, F_, F_, F_, F_, F_, F_, F_] rfl rfl (any_of HT_.out (by kernel_rfl)) (fun _ _ _ h => h) (Or.inl ⟨by rfl, ?_⟩) ?_ ?_
  rotate_left
  ·intro w'
   go_simp
   with_reducible rfl
  rotate_left
  ·simp only [Act.put, la_, lz_, ls_, i64_w, i32_w]
   rfl
  refine pure_ (i := 1) (N := some 10) (v := ?_) (a' := ?_) #[T_, T_, F_, F_, F_, F_, F_, F_, F_, F_, F_, F_, F_] rfl rfl (any_of HT_.out (by kernel_rfl)) (fun _ _ _ h => h) (Or.inl ⟨by rfl, ?_⟩) ?_ ?_
  rotate_left
  ·intro w'
   go_simp
   with_reducible rfl
  rotate_left
  ·simp only [Act.put, la_, lz_, ls_, i64_w, i32_w]
   rfl
  refine pure_ (i := 4) (N := some 13) (v := ?_) (a' := ?_) #[T_, T_, F_, F_, T_, F_, F_, F_, F_, F_, F_, F_, F_] rfl rfl (any_of HT_.out (by kernel_rfl)) (fun _ _ _ h => h) (Or.inl ⟨by rfl, ?_⟩) ?_ ?_
  rotate_left
  ·intro w'
   go_simp
   with_reducible rfl
  rotate_left
  ·simp only [Act.put, la_, lz_, ls_, i64_w, i32_w]
   rfl
  refine pure_ (i := 7) (N := some 16) (v := ?_) (a' := ?_) #[T_, T_, F_, F_, T_, F_, F_, T_, F_, F_, F_, F_, F_] rfl rfl (any_of HT_.out (by kernel_rfl)) (fun _ _ _ h => h) (Or.inl ⟨by rfl, ?_⟩) ?_ ?_
  rotate_left
  ·intro w'
   go_simp
   with_reducible rfl
  rotate_left
  ·simp only [Act.put, la_, lz_, ls_, i64_w, i32_w]
   rfl
  refine pure_ (i := 8) (N := some 17) (v := ?_) (a' := ?_) #[T_, T_, F_, F_, T_, F_, F_, T_, T_, F_, F_, F_, F_] rfl rfl (any_of HT_.out (by kernel_rfl)) (fun _ _ _ h => h) (Or.inl ⟨by rfl, ?_⟩) ?_ ?_
  rotate_left
  ·intro w'
   go_simp
   with_reducible rfl
  rotate_left
  ·simp only [Act.put, la_, lz_, ls_, i64_w, i32_w]
   rfl
  refine take_ (i := 2) (N := some 11) (v := ?_) (a' := ?_) #[T_, T_, T_, F_, T_, F_, F_, T_, T_, F_, F_, F_, F_] rfl rfl (take_ofW HT_.out HW_.out (by kernel_rfl)) (fun _ _ _ h => h) (Or.inl ⟨by rfl, ?_⟩) hHeld ?_ ?_
  rotate_left
  ·intro w' s13920
   go_simp
   with_reducible rfl
  rotate_left
  ·simp only [Act.put, la_, lz_, ls_, i64_w, i32_w]
   rfl
  refine pure_ (i := 3) (N := some 12) (v := ?_) (a' := ?_) #[T_, T_, T_, T_, T_, F_, F_, T_, T_, F_, F_, F_, F_] rfl rfl (any_of HT_.out (by kernel_rfl)) (fun _ _ _ h => h) (Or.inl ⟨by rfl, ?_⟩) ?_ ?_
  rotate_left
  ·intro w'
   go_simp
   with_reducible rfl
  rotate_left
  ·simp only [Act.put, la_, lz_, ls_, i64_w, i32_w]
   rfl
  refine join_ (σ := Value × Value × Nat) 1 #[T_, T_, T_, T_, T_, T_, T_, T_, T_, T_, T_, T_, F_] (fun s_ => [(14, .int .i64 t486), (15, s_.1), (18, s_.2.1), (4, .pointer (some ⟨s_.2.2, 0, none⟩)), (19, .agg #[.int .i64 (wrap64 (rd l0 0)), .int .i64 t486, s_.2.1])]) (fun s_ w' => (w'.cell? ad13320 = some (.int .u8 (rd l0 0))) ∧ (Kd.R (Kd.int .u8) 5 w' w.heap.size (fun _ => True) s_.2.1 y491) ∧ (w'.heap[gb13240]? = some (.cells #[.int .i64 0, .int .i64 0, .slice none 0 0] 44 (0, 0))) ∧ (w'.heap[s_.2.2]? = some (.cells #[.int .i64 0, .int .i64 0, .slice none 0 0] 44 (0, 0))) ∧ (w.heap.size ≤ s_.2.2) ∧ (w.heap.size ≤ s_.2.2) ∧ (gb13240 ≠ s_.2.2) ∧ (s_.2.2 ≠ gb13240) ∧ (Below w.heap.size w w')) ?_ ?_
  rotate_left
  ·intro hJ5_6_9_11
   refine join_ (σ := Value × Value) 2 #[T_, T_, T_, T_, T_, T_, T_, T_, T_, T_, T_, F_, F_] (fun s_ => [(14, .int .i64 t486), (15, s_.1), (18, s_.2), (19, .agg #[.int .i64 (wrap64 (rd l0 0)), .int .i64 t486, s_.2])]) (fun s_ w' => (w'.cell? ad13320 = some (.int .u8 (rd l0 0))) ∧ (Kd.R (Kd.int .u8) 5 w' w.heap.size (fun _ => True) s_.2 y491) ∧ (w'.heap[gb13240]? = some (.cells #[.int .i64 0, .int .i64 0, .slice none 0 0] 44 (0, 0))) ∧ (Below w.heap.size w w')) ?_ ?_
   rotate_left
   ·intro hJ5_6_9
    refine join_ (σ := Value × Nat) 3 #[T_, T_, T_, T_, T_, T_, T_, T_, T_, F_, F_, T_, F_] (fun s_ => [(14, .int .i64 t486), (15, s_.1), (4, .pointer (some ⟨s_.2, 0, none⟩))]) (fun s_ w' => (w'.cell? ad13320 = some (.int .u8 (rd l0 0))) ∧ (Kd.R (Kd.int .u8) 5 w' w.heap.size (fun _ => True) s_.1 y487) ∧ (w'.heap[gb13240]? = some (.cells #[.int .i64 0, .int .i64 0, .slice none 0 0] 44 (0, 0))) ∧ (w'.heap[s_.2]? = some (.cells #[.int .i64 0, .int .i64 0, .slice none 0 0] 44 (0, 0))) ∧ (w.heap.size ≤ s_.2) ∧ (w.heap.size ≤ s_.2) ∧ (gb13240 ≠ s_.2) ∧ (s_.2 ≠ gb13240) ∧ (Below w.heap.size w w')) ?_ ?_
    rotate_left
    ·intro hJ5_6_11
     refine join_ (σ := Value) 4 #[T_, T_, T_, T_, T_, T_, T_, T_, T_, F_, F_, F_, F_] (fun s_ => [(14, .int .i64 t486), (15, s_)]) (fun s_ w' => (w'.cell? ad13320 = some (.int .u8 (rd l0 0))) ∧ (Kd.R (Kd.int .u8) 5 w' w.heap.size (fun _ => True) s_ y487) ∧ (w'.heap[gb13240]? = some (.cells #[.int .i64 0, .int .i64 0, .slice none 0 0] 44 (0, 0))) ∧ (Below w.heap.size w w')) ?_ ?_
     rotate_left
     ·intro hJ5_6
      refine join_ (σ := Nat) 4 #[T_, T_, T_, T_, T_, T_, F_, T_, T_, F_, F_, T_, F_] (fun s_ => [(14, .int .i64 t486), (4, .pointer (some ⟨s_, 0, none⟩))]) (fun s_ w' => (w'.cell? ad13320 = some (.int .u8 (rd l0 0))) ∧ (w'.heap[gb13240]? = some (.cells #[.int .i64 0, .int .i64 0, .slice none 0 0] 44 (0, 0))) ∧ (w'.heap[s_]? = some (.cells #[.int .i64 0, .int .i64 0, .slice none 0 0] 44 (0, 0))) ∧ (w.heap.size ≤ s_) ∧ (w.heap.size ≤ s_) ∧ (gb13240 ≠ s_) ∧ (s_ ≠ gb13240) ∧ (Below w.heap.size w w')) ?_ ?_
      rotate_left
      ·intro hJ5_11
       refine join_ (σ := Value × Nat) 4 #[T_, T_, T_, T_, T_, F_, T_, T_, T_, F_, F_, T_, F_] (fun s_ => [(15, s_.1), (4, .pointer (some ⟨s_.2, 0, none⟩))]) (fun s_ w' => (w'.cell? ad13320 = some (.int .u8 (rd l0 0))) ∧ (Kd.R (Kd.int .u8) 5 w' w.heap.size (fun _ => True) s_.1 y487) ∧ (w'.heap[gb13240]? = some (.cells #[.int .i64 0, .int .i64 0, .slice none 0 0] 44 (0, 0))) ∧ (w'.heap[s_.2]? = some (.cells #[.int .i64 0, .int .i64 0, .slice none 0 0] 44 (0, 0))) ∧ (w.heap.size ≤ s_.2) ∧ (w.heap.size ≤ s_.2) ∧ (gb13240 ≠ s_.2) ∧ (s_.2 ≠ gb13240) ∧ (Below w.heap.size w w')) ?_ ?_
       rotate_left
       ·intro hJ6_11
        refine join_ (σ := Unit) 5 #[T_, T_, T_, T_, T_, T_, F_, T_, T_, F_, F_, F_, F_] (fun s_ => [(14, .int .i64 t486)]) (fun s_ w' => (w'.cell? ad13320 = some (.int .u8 (rd l0 0))) ∧ (w'.heap[gb13240]? = some (.cells #[.int .i64 0, .int .i64 0, .slice none 0 0] 44 (0, 0))) ∧ (Below w.heap.size w w')) ?_ ?_
        rotate_left
        ·intro hJ14000
         refine join_ (σ := Value) 5 #[T_, T_, T_, T_, T_, F_, T_, T_, T_, F_, F_, F_, F_] (fun s_ => [(15, s_)]) (fun s_ w' => (w'.cell? ad13320 = some (.int .u8 (rd l0 0))) ∧ (Kd.R (Kd.int .u8) 5 w' w.heap.size (fun _ => True) s_ y487) ∧ (w'.heap[gb13240]? = some (.cells #[.int .i64 0, .int .i64 0, .slice none 0 0] 44 (0, 0))) ∧ (Below w.heap.size w w')) ?_ ?_
         rotate_left
         ·intro hJ14001
          refine join_ (σ := Nat) 5 #[T_, T_, T_, T_, T_, F_, F_, T_, T_, F_, F_, T_, F_] (fun s_ => [(4, .pointer (some ⟨s_, 0, none⟩))]) (fun s_ w' => (w'.cell? ad13320 = some (.int .u8 (rd l0 0))) ∧ (w'.heap[gb13240]? = some (.cells #[.int .i64 0, .int .i64 0, .slice none 0 0] 44 (0, 0))) ∧ (w'.heap[s_]? = some (.cells #[.int .i64 0, .int .i64 0, .slice none 0 0] 44 (0, 0))) ∧ (w.heap.size ≤ s_) ∧ (w.heap.size ≤ s_) ∧ (gb13240 ≠ s_) ∧ (s_ ≠ gb13240) ∧ (Below w.heap.size w w')) ?_ ?_
          rotate_left
          ·intro hJ14002
           refine three_ (i := 5) (j := 6) (k := 11) (Ni := some 14) (Nj := some 15) (Nk := some 4) #[T_, T_, T_, T_, T_, T_, F_, T_, T_, F_, F_, F_, F_] #[T_, T_, T_, T_, T_, F_, T_, T_, T_, F_, F_, F_, F_] #[T_, T_, T_, T_, T_, F_, F_, T_, T_, F_, F_, T_, F_] rfl rfl rfl rfl rfl rfl (three_of HT_.out (by kernel_rfl)) (by decide) (by decide) (by decide) (fun K hK => ?_) (fun K hK => ?_) (fun K hK => ?_)
           ·skip
            refine goes_ Try.func101 (by kernel_rfl) rfl #[.slice (some ad13320) l0.length c0, .int .i64 1, .int .i64 2] (by rfl) rfl rfl (by (try simp only [lm_, lo_, ln_]); try rfl) ?_
            with_reducible refine (spec_NumberAt.calls k _ _ l0 1 2 t486 _ ?side1 ?side2 A6.out).mono ?_
            (case side1 => repeat (first | exact (Kd.C_below HR0.out HB.out) | (with_reducible refine Kd.C_alloc ?_ _) | (with_reducible refine Kd.C_drewN ?_ _) | (with_reducible refine Kd.C_drew ?_)))
            (case side2 => exact HC0.out)
            rintro e w' ⟨rfl, ⟨nd, rfl⟩⟩
            refine ⟨_, rfl, ?_⟩
            refine hK.out _ _ (((HB.out.cell (lc_ w _ hw485_0)).trans hw485_0)) (fun hHeld => ?_)
            clear hK K
            refine norm_ (a' := ?_) ?_ ?_
            rotate_left
            ·show Act.put _ (some 14) _ = _
             simp only [Act.put, la_, lz_, ls_, i64_w, i32_w]
             rfl
            exact norm_ (by first | (simp only [putAll, Act.put, la_, lz_, ls_]; done) | (simp only [putAll, Act.put, la_, lz_, ls_]; rfl)) (hJ14000 () _ ⟨hHeld, (u_ BK484.out), (us_ HB.out)⟩)
           ·skip
            refine Kd.R_lit_step (Kd.int .u8) _ 5 ?hg (N := 15) ?hd (xs := ([] : List Int)) (inner := []) (ok := fun _ => True) (okp := fun _ => True) ?hr ?hp (fun _ hk => hk) trivial (Below.refl _ _) (Nat.le_refl _) (by simp) ?_; (case hd => rfl); (case hg => rfl); (case hr => first | (go_simp; done) | (go_simp; rfl)); (case hp => exact (Reps.none _ _))
            intro v14003 w14004 ho14005 hb hg_ hnew_
            clear hg_ hnew_
            (first | rw [← Ny487.out] at ho14005 | (simp only [Int.reduceToNat] at ho14005; rw [← Ny487.out] at ho14005))
            have n0_ := mk_ (Kd.R_lower ho14005 (below_size (us_ HB.out)))
            have n1_ := mk_ (blk_below (u_ BK484.out) hb)
            have n2_ := mk_ (below_step (us_ HB.out) hb)
            clear BK484
            clear HB
            have HO489 := n0_
            have BK484 := n1_
            have HB := n2_
            clear n0_ n1_ n2_
            clear hb ho14005
            refine hK.out _ _ (((HB.out.cell (lc_ w _ hw485_0)).trans hw485_0)) (fun hHeld => ?_)
            clear hK K
            refine norm_ (a' := ?_) ?_ ?_
            rotate_left
            ·show Act.put _ (some 15) _ = _
             simp only [Act.put, la_, lz_, ls_, i64_w, i32_w]
             rfl
            exact norm_ (by first | (simp only [putAll, Act.put, la_, lz_, ls_]; done) | (simp only [putAll, Act.put, la_, lz_, ls_]; rfl)) (hJ14001 (v14003) _ ⟨hHeld, (Kd.ur_ HO489.out), (u_ BK484.out), (us_ HB.out)⟩)
           skip
           refine box_step ?hg (N := 4) ?hd (cs := #[.int .i64 0, .int .i64 0, .slice none 0 0]) (t := 44) ?hr ?_; (case hd => rfl); (case hg => rfl); (case hr => first | (go_simp; done) | (go_simp; rfl))
           intro gb14006 hg w14004 hbox hb
           have n0_ := mk_ (blk_below (u_ BK484.out) hb)
           have n1_ := mk_ (below_step (us_ HB.out) hb)
           have n2_ := mk_ (hbox)
           have n3_ := mk_ ((by rw [hg]; exact (below_size (us_ HB.out)) : w.heap.size ≤ gb14006))
           have n4_ := mk_ ((by rw [hg]; exact (below_size (us_ HB.out)) : w.heap.size ≤ gb14006))
           have n5_ := mk_ ((by rw [hg]; exact Nat.ne_of_lt (blk_lt (u_ BK484.out)) : gb13240 ≠ gb14006))
           have n6_ := mk_ ((by rw [hg]; exact Nat.ne_of_gt (blk_lt (u_ BK484.out)) : gb14006 ≠ gb13240))
           clear BK484
           clear HB
           have BK484 := n0_
           have HB := n1_
           have BK494 := n2_
           have GW494 := n3_
           have GE494 := ge_ n4_.out
           have NB484_494 := nq_ n5_.out
           have NB494_484 := nq_ n6_.out
           clear n0_ n1_ n2_ n3_ n4_ n5_ n6_
           clear hb hbox hg
           refine hK.out _ _ (((HB.out.cell (lc_ w _ hw485_0)).trans hw485_0)) (fun hHeld => ?_)
           clear hK K
           refine norm_ (a' := ?_) ?_ ?_
           rotate_left
           ·show Act.put _ (some 4) _ = _
            simp only [Act.put, la_, lz_, ls_, i64_w, i32_w]
            rfl
           exact norm_ (by first | (simp only [putAll, Act.put, la_, lz_, ls_]; done) | (simp only [putAll, Act.put, la_, lz_, ls_]; rfl)) (hJ14002 (gb14006) _ ⟨hHeld, (u_ BK484.out), (u_ BK494.out), GW494.out, GE494.out, NB484_494.out, NB494_484.out, (us_ HB.out)⟩)
          skip
          rintro gb14006 w14005 ⟨hS_, h0_, h1_, h2_, h3_, h4_, h5_, h6_⟩
          have n0_ : Aside0 (w14005.heap[gb13240]? = some (.cells #[.int .i64 0, .int .i64 0, .slice none 0 0] 44 (0, 0))) := ⟨h0_⟩
          have n1_ : Aside0 (w14005.heap[gb14006]? = some (.cells #[.int .i64 0, .int .i64 0, .slice none 0 0] 44 (0, 0))) := ⟨h1_⟩
          have n2_ : Aside0 (w.heap.size ≤ gb14006) := ⟨h2_⟩
          have n3_ : Aside0 (w.heap.size ≤ gb14006) := ⟨h3_⟩
          have n4_ : Aside0 (gb13240 ≠ gb14006) := ⟨h4_⟩
          have n5_ : Aside0 (gb14006 ≠ gb13240) := ⟨h5_⟩
          have n6_ : Aside0 (Below w.heap.size w w14005) := ⟨h6_⟩
          clear BK484
          clear HB
          clear h0_ h1_ h2_ h3_ h4_ h5_ h6_
          have BK484 := n0_
          have BK494 := n1_
          have GW494 := n2_
          have GE494 := ge_ n3_.out
          have NB484_494 := nq_ n4_.out
          have NB494_484 := nq_ n5_.out
          have HB := n6_
          clear n0_ n1_ n2_ n3_ n4_ n5_ n6_
          have hHeld : w14005.cell? ad13320 = some (.int .u8 (rd l0 0)) := hS_
          refine norm_ (a' := ?_) ?_ ?_
          rotate_left
          ·simp only [putAll, Act.put, la_, lz_, ls_]
           rfl
          refine two_ (i := 5) (j := 6) (Ni := some 14) (Nj := some 15) #[T_, T_, T_, T_, T_, T_, F_, T_, T_, F_, F_, T_, F_] #[T_, T_, T_, T_, T_, F_, T_, T_, T_, F_, F_, T_, F_] rfl rfl rfl rfl (two_of HT_.out (by kernel_rfl)) (by decide) (by decide) (fun K hK => ?_) (fun K hK => ?_)
          ·skip
           refine goes_ Try.func101 (by kernel_rfl) rfl #[.slice (some ad13320) l0.length c0, .int .i64 1, .int .i64 2] (by rfl) rfl rfl (by (try simp only [lm_, lo_, ln_]); try rfl) ?_
           with_reducible refine (spec_NumberAt.calls k _ _ l0 1 2 t486 _ ?side1 ?side2 A6.out).mono ?_
           (case side1 => repeat (first | exact (Kd.C_below HR0.out HB.out) | (with_reducible refine Kd.C_alloc ?_ _) | (with_reducible refine Kd.C_drewN ?_ _) | (with_reducible refine Kd.C_drew ?_)))
           (case side2 => exact HC0.out)
           rintro e w' ⟨rfl, ⟨nd, rfl⟩⟩
           refine ⟨_, rfl, ?_⟩
           refine hK.out _ _ (((HB.out.cell (lc_ w _ hw485_0)).trans hw485_0)) (fun hHeld => ?_)
           clear hK K
           refine norm_ (a' := ?_) ?_ ?_
           rotate_left
           ·show Act.put _ (some 14) _ = _
            simp only [Act.put, la_, lz_, ls_, i64_w, i32_w]
            rfl
           exact norm_ (by first | (simp only [putAll, Act.put, la_, lz_, ls_]; done) | (simp only [putAll, Act.put, la_, lz_, ls_]; rfl)) (hJ5_11 (gb14006) _ ⟨hHeld, (u_ BK484.out), (u_ BK494.out), GW494.out, GE494.out, NB484_494.out, NB494_484.out, (us_ HB.out)⟩)
          skip
          refine Kd.R_lit_step (Kd.int .u8) _ 5 ?hg (N := 15) ?hd (xs := ([] : List Int)) (inner := []) (ok := fun _ => True) (okp := fun _ => True) ?hr ?hp (fun _ hk => hk) trivial (Below.refl _ _) (Nat.le_refl _) (by simp) ?_; (case hd => rfl); (case hg => rfl); (case hr => first | (go_simp; done) | (go_simp; rfl)); (case hp => exact (Reps.none _ _))
          intro v14003 w14007 ho14008 hb hg_ hnew_
          clear hg_ hnew_
          (first | rw [← Ny487.out] at ho14008 | (simp only [Int.reduceToNat] at ho14008; rw [← Ny487.out] at ho14008))
          have n0_ := mk_ (Kd.R_lower ho14008 (below_size (us_ HB.out)))
          have n1_ := mk_ (blk_below (u_ BK484.out) hb)
          have n2_ := mk_ (blk_below (u_ BK494.out) hb)
          have n3_ := mk_ (below_step (us_ HB.out) hb)
          clear BK484
          clear BK494
          clear HB
          have HO489 := n0_
          have BK484 := n1_
          have BK494 := n2_
          have HB := n3_
          clear n0_ n1_ n2_ n3_
          clear hb ho14008
          refine hK.out _ _ (((HB.out.cell (lc_ w _ hw485_0)).trans hw485_0)) (fun hHeld => ?_)
          clear hK K
          refine norm_ (a' := ?_) ?_ ?_
          rotate_left
          ·show Act.put _ (some 15) _ = _
           simp only [Act.put, la_, lz_, ls_, i64_w, i32_w]
           rfl
          exact norm_ (by first | (simp only [putAll, Act.put, la_, lz_, ls_]; done) | (simp only [putAll, Act.put, la_, lz_, ls_]; rfl)) (hJ6_11 (v14003, gb14006) _ ⟨hHeld, (Kd.ur_ HO489.out), (u_ BK484.out), (u_ BK494.out), GW494.out, GE494.out, NB484_494.out, NB494_484.out, (us_ HB.out)⟩)
         skip
         rintro v14003 w14007 ⟨hS_, h0_, h1_, h2_⟩
         have n0_ : Aside0 (Kd.R (Kd.int .u8) 5 w14007 w.heap.size (fun _ => True) v14003 y487) := ⟨h0_⟩
         have n1_ : Aside0 (w14007.heap[gb13240]? = some (.cells #[.int .i64 0, .int .i64 0, .slice none 0 0] 44 (0, 0))) := ⟨h1_⟩
         have n2_ : Aside0 (Below w.heap.size w w14007) := ⟨h2_⟩
         clear BK484
         clear HB
         clear h0_ h1_ h2_
         have HO489 := n0_
         have BK484 := n1_
         have HB := n2_
         clear n0_ n1_ n2_
         have hHeld : w14007.cell? ad13320 = some (.int .u8 (rd l0 0)) := hS_
         refine norm_ (a' := ?_) ?_ ?_
         rotate_left
         ·simp only [putAll, Act.put, la_, lz_, ls_]
          rfl
         refine two_ (i := 5) (j := 11) (Ni := some 14) (Nj := some 4) #[T_, T_, T_, T_, T_, T_, T_, T_, T_, F_, F_, F_, F_] #[T_, T_, T_, T_, T_, F_, T_, T_, T_, F_, F_, T_, F_] rfl rfl rfl rfl (two_of HT_.out (by kernel_rfl)) (by decide) (by decide) (fun K hK => ?_) (fun K hK => ?_)
         ·skip
          refine goes_ Try.func101 (by kernel_rfl) rfl #[.slice (some ad13320) l0.length c0, .int .i64 1, .int .i64 2] (by rfl) rfl rfl (by (try simp only [lm_, lo_, ln_]); try rfl) ?_
          with_reducible refine (spec_NumberAt.calls k _ _ l0 1 2 t486 _ ?side1 ?side2 A6.out).mono ?_
          (case side1 => repeat (first | exact (Kd.C_below HR0.out HB.out) | (with_reducible refine Kd.C_alloc ?_ _) | (with_reducible refine Kd.C_drewN ?_ _) | (with_reducible refine Kd.C_drew ?_)))
          (case side2 => exact HC0.out)
          rintro e w' ⟨rfl, ⟨nd, rfl⟩⟩
          refine ⟨_, rfl, ?_⟩
          refine hK.out _ _ (((HB.out.cell (lc_ w _ hw485_0)).trans hw485_0)) (fun hHeld => ?_)
          clear hK K
          refine norm_ (a' := ?_) ?_ ?_
          rotate_left
          ·show Act.put _ (some 14) _ = _
           simp only [Act.put, la_, lz_, ls_, i64_w, i32_w]
           rfl
          exact norm_ (by first | (simp only [putAll, Act.put, la_, lz_, ls_]; done) | (simp only [putAll, Act.put, la_, lz_, ls_]; rfl)) (hJ5_6 (v14003) _ ⟨hHeld, (Kd.ur_ HO489.out), (u_ BK484.out), (us_ HB.out)⟩)
         skip
         refine box_step ?hg (N := 4) ?hd (cs := #[.int .i64 0, .int .i64 0, .slice none 0 0]) (t := 44) ?hr ?_; (case hd => rfl); (case hg => rfl); (case hr => first | (go_simp; done) | (go_simp; rfl))
         intro gb14006 hg w14008 hbox hb
         have n0_ := mk_ (Kd.R_below (Kd.ur_ HO489.out) hb)
         have n1_ := mk_ (blk_below (u_ BK484.out) hb)
         have n2_ := mk_ (below_step (us_ HB.out) hb)
         have n3_ := mk_ (hbox)
         have n4_ := mk_ ((by rw [hg]; exact (below_size (us_ HB.out)) : w.heap.size ≤ gb14006))
         have n5_ := mk_ ((by rw [hg]; exact (below_size (us_ HB.out)) : w.heap.size ≤ gb14006))
         have n6_ := mk_ ((by rw [hg]; exact Nat.ne_of_lt (blk_lt (u_ BK484.out)) : gb13240 ≠ gb14006))
         have n7_ := mk_ ((by rw [hg]; exact Nat.ne_of_gt (blk_lt (u_ BK484.out)) : gb14006 ≠ gb13240))
         clear HO489
         clear BK484
         clear HB
         have HO489 := n0_
         have BK484 := n1_
         have HB := n2_
         have BK494 := n3_
         have GW494 := n4_
         have GE494 := ge_ n5_.out
         have NB484_494 := nq_ n6_.out
         have NB494_484 := nq_ n7_.out
         clear n0_ n1_ n2_ n3_ n4_ n5_ n6_ n7_
         clear hb hbox hg
         refine hK.out _ _ (((HB.out.cell (lc_ w _ hw485_0)).trans hw485_0)) (fun hHeld => ?_)
         clear hK K
         refine norm_ (a' := ?_) ?_ ?_
         rotate_left
         ·show Act.put _ (some 4) _ = _
          simp only [Act.put, la_, lz_, ls_, i64_w, i32_w]
          rfl
         exact norm_ (by first | (simp only [putAll, Act.put, la_, lz_, ls_]; done) | (simp only [putAll, Act.put, la_, lz_, ls_]; rfl)) (hJ6_11 (v14003, gb14006) _ ⟨hHeld, (Kd.ur_ HO489.out), (u_ BK484.out), (u_ BK494.out), GW494.out, GE494.out, NB484_494.out, NB494_484.out, (us_ HB.out)⟩)
        skip
        rintro _ w14004 ⟨hS_, h0_, h1_⟩
        have n0_ : Aside0 (w14004.heap[gb13240]? = some (.cells #[.int .i64 0, .int .i64 0, .slice none 0 0] 44 (0, 0))) := ⟨h0_⟩
        have n1_ : Aside0 (Below w.heap.size w w14004) := ⟨h1_⟩
        clear BK484
        clear HB
        clear h0_ h1_
        have BK484 := n0_
        have HB := n1_
        clear n0_ n1_
        have hHeld : w14004.cell? ad13320 = some (.int .u8 (rd l0 0)) := hS_
        refine norm_ (a' := ?_) ?_ ?_
        rotate_left
        ·simp only [putAll, Act.put, la_, lz_, ls_]
         rfl
        refine two_ (i := 6) (j := 11) (Ni := some 15) (Nj := some 4) #[T_, T_, T_, T_, T_, T_, T_, T_, T_, F_, F_, F_, F_] #[T_, T_, T_, T_, T_, T_, F_, T_, T_, F_, F_, T_, F_] rfl rfl rfl rfl (two_of HT_.out (by kernel_rfl)) (by decide) (by decide) (fun K hK => ?_) (fun K hK => ?_)
        ·skip
         refine Kd.R_lit_step (Kd.int .u8) _ 5 ?hg (N := 15) ?hd (xs := ([] : List Int)) (inner := []) (ok := fun _ => True) (okp := fun _ => True) ?hr ?hp (fun _ hk => hk) trivial (Below.refl _ _) (Nat.le_refl _) (by simp) ?_; (case hd => rfl); (case hg => rfl); (case hr => first | (go_simp; done) | (go_simp; rfl)); (case hp => exact (Reps.none _ _))
         intro v14003 w14005 ho14007 hb hg_ hnew_
         clear hg_ hnew_
         (first | rw [← Ny487.out] at ho14007 | (simp only [Int.reduceToNat] at ho14007; rw [← Ny487.out] at ho14007))
         have n0_ := mk_ (Kd.R_lower ho14007 (below_size (us_ HB.out)))
         have n1_ := mk_ (blk_below (u_ BK484.out) hb)
         have n2_ := mk_ (below_step (us_ HB.out) hb)
         clear BK484
         clear HB
         have HO489 := n0_
         have BK484 := n1_
         have HB := n2_
         clear n0_ n1_ n2_
         clear hb ho14007
         refine hK.out _ _ (((HB.out.cell (lc_ w _ hw485_0)).trans hw485_0)) (fun hHeld => ?_)
         clear hK K
         refine norm_ (a' := ?_) ?_ ?_
         rotate_left
         ·show Act.put _ (some 15) _ = _
          simp only [Act.put, la_, lz_, ls_, i64_w, i32_w]
          rfl
         exact norm_ (by first | (simp only [putAll, Act.put, la_, lz_, ls_]; done) | (simp only [putAll, Act.put, la_, lz_, ls_]; rfl)) (hJ5_6 (v14003) _ ⟨hHeld, (Kd.ur_ HO489.out), (u_ BK484.out), (us_ HB.out)⟩)
        skip
        refine box_step ?hg (N := 4) ?hd (cs := #[.int .i64 0, .int .i64 0, .slice none 0 0]) (t := 44) ?hr ?_; (case hd => rfl); (case hg => rfl); (case hr => first | (go_simp; done) | (go_simp; rfl))
        intro gb14006 hg w14005 hbox hb
        have n0_ := mk_ (blk_below (u_ BK484.out) hb)
        have n1_ := mk_ (below_step (us_ HB.out) hb)
        have n2_ := mk_ (hbox)
        have n3_ := mk_ ((by rw [hg]; exact (below_size (us_ HB.out)) : w.heap.size ≤ gb14006))
        have n4_ := mk_ ((by rw [hg]; exact (below_size (us_ HB.out)) : w.heap.size ≤ gb14006))
        have n5_ := mk_ ((by rw [hg]; exact Nat.ne_of_lt (blk_lt (u_ BK484.out)) : gb13240 ≠ gb14006))
        have n6_ := mk_ ((by rw [hg]; exact Nat.ne_of_gt (blk_lt (u_ BK484.out)) : gb14006 ≠ gb13240))
        clear BK484
        clear HB
        have BK484 := n0_
        have HB := n1_
        have BK494 := n2_
        have GW494 := n3_
        have GE494 := ge_ n4_.out
        have NB484_494 := nq_ n5_.out
        have NB494_484 := nq_ n6_.out
        clear n0_ n1_ n2_ n3_ n4_ n5_ n6_
        clear hb hbox hg
        refine hK.out _ _ (((HB.out.cell (lc_ w _ hw485_0)).trans hw485_0)) (fun hHeld => ?_)
        clear hK K
        refine norm_ (a' := ?_) ?_ ?_
        rotate_left
        ·show Act.put _ (some 4) _ = _
         simp only [Act.put, la_, lz_, ls_, i64_w, i32_w]
         rfl
        exact norm_ (by first | (simp only [putAll, Act.put, la_, lz_, ls_]; done) | (simp only [putAll, Act.put, la_, lz_, ls_]; rfl)) (hJ5_11 (gb14006) _ ⟨hHeld, (u_ BK484.out), (u_ BK494.out), GW494.out, GE494.out, NB484_494.out, NB494_484.out, (us_ HB.out)⟩)
       skip
       rintro ⟨v14003, gb14006⟩ w14008 ⟨hS_, h0_, h1_, h2_, h3_, h4_, h5_, h6_, h7_⟩
       have n0_ : Aside0 (Kd.R (Kd.int .u8) 5 w14008 w.heap.size (fun _ => True) v14003 y487) := ⟨h0_⟩
       have n1_ : Aside0 (w14008.heap[gb13240]? = some (.cells #[.int .i64 0, .int .i64 0, .slice none 0 0] 44 (0, 0))) := ⟨h1_⟩
       have n2_ : Aside0 (w14008.heap[gb14006]? = some (.cells #[.int .i64 0, .int .i64 0, .slice none 0 0] 44 (0, 0))) := ⟨h2_⟩
       have n3_ : Aside0 (w.heap.size ≤ gb14006) := ⟨h3_⟩
       have n4_ : Aside0 (w.heap.size ≤ gb14006) := ⟨h4_⟩
       have n5_ : Aside0 (gb13240 ≠ gb14006) := ⟨h5_⟩
       have n6_ : Aside0 (gb14006 ≠ gb13240) := ⟨h6_⟩
       have n7_ : Aside0 (Below w.heap.size w w14008) := ⟨h7_⟩
       clear BK484
       clear HB
       clear h0_ h1_ h2_ h3_ h4_ h5_ h6_ h7_
       have HO489 := n0_
       have BK484 := n1_
       have BK494 := n2_
       have GW494 := n3_
       have GE494 := ge_ n4_.out
       have NB484_494 := nq_ n5_.out
       have NB494_484 := nq_ n6_.out
       have HB := n7_
       clear n0_ n1_ n2_ n3_ n4_ n5_ n6_ n7_
       have hHeld : w14008.cell? ad13320 = some (.int .u8 (rd l0 0)) := hS_
       refine norm_ (a' := ?_) ?_ ?_
       rotate_left
       ·simp only [putAll, Act.put, la_, lz_, ls_]
        rfl
       refine one_ (i := 5) (N := some 14) #[T_, T_, T_, T_, T_, T_, T_, T_, T_, F_, F_, T_, F_] rfl rfl (one_of HT_.out (by kernel_rfl)) (by decide) (fun K hK => ?_)
       refine goes_ Try.func101 (by kernel_rfl) rfl #[.slice (some ad13320) l0.length c0, .int .i64 1, .int .i64 2] (by rfl) rfl rfl (by (try simp only [lm_, lo_, ln_]); try rfl) ?_
       with_reducible refine (spec_NumberAt.calls k _ _ l0 1 2 t486 _ ?side1 ?side2 A6.out).mono ?_
       (case side1 => repeat (first | exact (Kd.C_below HR0.out HB.out) | (with_reducible refine Kd.C_alloc ?_ _) | (with_reducible refine Kd.C_drewN ?_ _) | (with_reducible refine Kd.C_drew ?_)))
       (case side2 => exact HC0.out)
       rintro e w' ⟨rfl, ⟨nd, rfl⟩⟩
       refine ⟨_, rfl, ?_⟩
       refine hK.out _ _ (((HB.out.cell (lc_ w _ hw485_0)).trans hw485_0)) (fun hHeld => ?_)
       clear hK K
       refine norm_ (a' := ?_) ?_ ?_
       rotate_left
       ·show Act.put _ (some 14) _ = _
        simp only [Act.put, la_, lz_, ls_, i64_w, i32_w]
        rfl
       exact norm_ (by first | (simp only [putAll, Act.put, la_, lz_, ls_]; done) | (simp only [putAll, Act.put, la_, lz_, ls_]; rfl)) (hJ5_6_11 (v14003, gb14006) _ ⟨hHeld, (Kd.ur_ HO489.out), (u_ BK484.out), (u_ BK494.out), GW494.out, GE494.out, NB484_494.out, NB494_484.out, (us_ HB.out)⟩)
      skip
      rintro gb14006 w14005 ⟨hS_, h0_, h1_, h2_, h3_, h4_, h5_, h6_⟩
      have n0_ : Aside0 (w14005.heap[gb13240]? = some (.cells #[.int .i64 0, .int .i64 0, .slice none 0 0] 44 (0, 0))) := ⟨h0_⟩
      have n1_ : Aside0 (w14005.heap[gb14006]? = some (.cells #[.int .i64 0, .int .i64 0, .slice none 0 0] 44 (0, 0))) := ⟨h1_⟩
      have n2_ : Aside0 (w.heap.size ≤ gb14006) := ⟨h2_⟩
      have n3_ : Aside0 (w.heap.size ≤ gb14006) := ⟨h3_⟩
      have n4_ : Aside0 (gb13240 ≠ gb14006) := ⟨h4_⟩
      have n5_ : Aside0 (gb14006 ≠ gb13240) := ⟨h5_⟩
      have n6_ : Aside0 (Below w.heap.size w w14005) := ⟨h6_⟩
      clear BK484
      clear HB
      clear h0_ h1_ h2_ h3_ h4_ h5_ h6_
      have BK484 := n0_
      have BK494 := n1_
      have GW494 := n2_
      have GE494 := ge_ n3_.out
      have NB484_494 := nq_ n4_.out
      have NB494_484 := nq_ n5_.out
      have HB := n6_
      clear n0_ n1_ n2_ n3_ n4_ n5_ n6_
      have hHeld : w14005.cell? ad13320 = some (.int .u8 (rd l0 0)) := hS_
      refine norm_ (a' := ?_) ?_ ?_
      rotate_left
      ·simp only [putAll, Act.put, la_, lz_, ls_]
       rfl
      refine one_ (i := 6) (N := some 15) #[T_, T_, T_, T_, T_, T_, T_, T_, T_, F_, F_, T_, F_] rfl rfl (one_of HT_.out (by kernel_rfl)) (by decide) (fun K hK => ?_)
      refine Kd.R_lit_step (Kd.int .u8) _ 5 ?hg (N := 15) ?hd (xs := ([] : List Int)) (inner := []) (ok := fun _ => True) (okp := fun _ => True) ?hr ?hp (fun _ hk => hk) trivial (Below.refl _ _) (Nat.le_refl _) (by simp) ?_; (case hd => rfl); (case hg => rfl); (case hr => first | (go_simp; done) | (go_simp; rfl)); (case hp => exact (Reps.none _ _))
      intro v14003 w14007 ho14008 hb hg_ hnew_
      clear hg_ hnew_
      (first | rw [← Ny487.out] at ho14008 | (simp only [Int.reduceToNat] at ho14008; rw [← Ny487.out] at ho14008))
      have n0_ := mk_ (Kd.R_lower ho14008 (below_size (us_ HB.out)))
      have n1_ := mk_ (blk_below (u_ BK484.out) hb)
      have n2_ := mk_ (blk_below (u_ BK494.out) hb)
      have n3_ := mk_ (below_step (us_ HB.out) hb)
      clear BK484
      clear BK494
      clear HB
      have HO489 := n0_
      have BK484 := n1_
      have BK494 := n2_
      have HB := n3_
      clear n0_ n1_ n2_ n3_
      clear hb ho14008
      refine hK.out _ _ (((HB.out.cell (lc_ w _ hw485_0)).trans hw485_0)) (fun hHeld => ?_)
      clear hK K
      refine norm_ (a' := ?_) ?_ ?_
      rotate_left
      ·show Act.put _ (some 15) _ = _
       simp only [Act.put, la_, lz_, ls_, i64_w, i32_w]
       rfl
      exact norm_ (by first | (simp only [putAll, Act.put, la_, lz_, ls_]; done) | (simp only [putAll, Act.put, la_, lz_, ls_]; rfl)) (hJ5_6_11 (v14003, gb14006) _ ⟨hHeld, (Kd.ur_ HO489.out), (u_ BK484.out), (u_ BK494.out), GW494.out, GE494.out, NB484_494.out, NB494_484.out, (us_ HB.out)⟩)
     skip
     rintro v14003 w14007 ⟨hS_, h0_, h1_, h2_⟩
     have n0_ : Aside0 (Kd.R (Kd.int .u8) 5 w14007 w.heap.size (fun _ => True) v14003 y487) := ⟨h0_⟩
     have n1_ : Aside0 (w14007.heap[gb13240]? = some (.cells #[.int .i64 0, .int .i64 0, .slice none 0 0] 44 (0, 0))) := ⟨h1_⟩
     have n2_ : Aside0 (Below w.heap.size w w14007) := ⟨h2_⟩
     clear BK484
     clear HB
     clear h0_ h1_ h2_
     have HO489 := n0_
     have BK484 := n1_
     have HB := n2_
     clear n0_ n1_ n2_
     have hHeld : w14007.cell? ad13320 = some (.int .u8 (rd l0 0)) := hS_
     refine norm_ (a' := ?_) ?_ ?_
     rotate_left
     ·simp only [putAll, Act.put, la_, lz_, ls_]
      rfl
     refine two_ (i := 9) (j := 11) (Ni := some 18) (Nj := some 4) #[T_, T_, T_, T_, T_, T_, T_, T_, T_, T_, F_, F_, F_] #[T_, T_, T_, T_, T_, T_, T_, T_, T_, F_, F_, T_, F_] rfl rfl rfl rfl (two_of HT_.out (by kernel_rfl)) (by decide) (by decide) (fun K hK => ?_) (fun K hK => ?_)
     ·skip
      refine Kd.R_append_rows_step (Kd.int .u8) (w0 := w) w.heap.size (by rfl) (.tmp 15) (.tmp 17) 22 5 (.int .u8 0) 1 rfl Try.underlying22 info5 rfl (by decide) (by omega) v14003 y487 (l0.drop 4) _ _ _ (fun _ => True) (fun _ => False) rfl rfl ?aO ?aR (fun _ _ h => h) (fun _ h => h.elim) ?aF ?aB ?aS ?aL ?_
      (case aR => first | (have e_ := (Kd.C_below HR13244.out HB.out); rw [show (l0.drop 4).length = (l0.length - 4) from List.length_drop] at e_; exact e_) | (rw [← show (l0.drop 4).length = (l0.length - 4) from List.length_drop]; repeat (first | exact (Kd.C_below HR13244.out HB.out) | (with_reducible refine Kd.C_alloc ?_ _) | (with_reducible refine Kd.C_drewN ?_ _) | (with_reducible refine Kd.C_drew ?_))) | (repeat (first | exact (Kd.C_below HR13244.out HB.out) | (with_reducible refine Kd.C_alloc ?_ _) | (with_reducible refine Kd.C_drewN ?_ _) | (with_reducible refine Kd.C_drew ?_))))
      (case aB => exact (us_ HB.out))
      (case aF => exact (fun _ _ => trivial))
      (case aO => exact (Kd.ur_ HO489.out))
      (case aS => exact (below_size (us_ HB.out)))
      (case aL => have := LMc8.out; have hlx_ := (show (l0.drop 4).length = (l0.length - 4) from List.length_drop); omega)
      intro v14009 w14008 ho hb hg hat
      rw [← Ny491.out] at ho
      have n0_ := mk_ (blk_grown (g := gb13240) (o := .cells #[.int .i64 0, .int .i64 0, .slice none 0 0] 44 (0, 0)) (u_ BK484.out) hg (Kd.R_ne HO489.out BK484.out (by decide)))
      have n1_ := mk_ (hb)
      have n2_ := mk_ (ho)
      clear BK484
      clear HB
      clear HO489
      have BK484 := n0_
      have HB := n1_
      have HO493 := n2_
      clear n0_ n1_ n2_
      clear ho hb hg hat
      obtain ⟨Ao3250493, co3250493, eo3250493⟩ := Kd.R_slice HO493.out
      (first | subst eo3250493 | (injection eo3250493 with f1_ f2_ f3_; have f4_ := f1_.symm; have f5_ := f3_.symm; clear f1_ f2_ f3_; subst f4_; subst f5_))
      refine hK.out _ _ (((HB.out.cell (lc_ w _ hw485_0)).trans hw485_0)) (fun hHeld => ?_)
      clear hK K
      refine norm_ (a' := ?_) ?_ ?_
      rotate_left
      ·show Act.put _ (some 18) _ = _
       simp only [Act.put, la_, lz_, ls_, i64_w, i32_w]
       rfl
      refine pure_ (i := 10) (N := some 19) (v := ?_) (a' := ?_) #[T_, T_, T_, T_, T_, T_, T_, T_, T_, T_, T_, F_, F_] rfl rfl (any_of HT_.out (by kernel_rfl)) (fun _ _ _ h => h) (Or.inl ⟨by rfl, ?_⟩) ?_ ?_
      rotate_left
      ·intro w'
       go_simp
       with_reducible rfl
      rotate_left
      ·simp only [Act.put, la_, lz_, ls_, i64_w, i32_w]
       rfl
      exact norm_ (by first | (simp only [putAll, Act.put, la_, lz_, ls_]; done) | (simp only [putAll, Act.put, la_, lz_, ls_]; rfl)) (hJ5_6_9 (v14003, .slice Ao3250493 y491.length co3250493) _ ⟨hHeld, (Kd.ur_ HO493.out), (u_ BK484.out), (us_ HB.out)⟩)
     skip
     refine box_step ?hg (N := 4) ?hd (cs := #[.int .i64 0, .int .i64 0, .slice none 0 0]) (t := 44) ?hr ?_; (case hd => rfl); (case hg => rfl); (case hr => first | (go_simp; done) | (go_simp; rfl))
     intro gb14006 hg w14008 hbox hb
     have n0_ := mk_ (Kd.R_below (Kd.ur_ HO489.out) hb)
     have n1_ := mk_ (blk_below (u_ BK484.out) hb)
     have n2_ := mk_ (below_step (us_ HB.out) hb)
     have n3_ := mk_ (hbox)
     have n4_ := mk_ ((by rw [hg]; exact (below_size (us_ HB.out)) : w.heap.size ≤ gb14006))
     have n5_ := mk_ ((by rw [hg]; exact (below_size (us_ HB.out)) : w.heap.size ≤ gb14006))
     have n6_ := mk_ ((by rw [hg]; exact Nat.ne_of_lt (blk_lt (u_ BK484.out)) : gb13240 ≠ gb14006))
     have n7_ := mk_ ((by rw [hg]; exact Nat.ne_of_gt (blk_lt (u_ BK484.out)) : gb14006 ≠ gb13240))
     clear HO489
     clear BK484
     clear HB
     have HO489 := n0_
     have BK484 := n1_
     have HB := n2_
     have BK494 := n3_
     have GW494 := n4_
     have GE494 := ge_ n5_.out
     have NB484_494 := nq_ n6_.out
     have NB494_484 := nq_ n7_.out
     clear n0_ n1_ n2_ n3_ n4_ n5_ n6_ n7_
     clear hb hbox hg
     refine hK.out _ _ (((HB.out.cell (lc_ w _ hw485_0)).trans hw485_0)) (fun hHeld => ?_)
     clear hK K
     refine norm_ (a' := ?_) ?_ ?_
     rotate_left
     ·show Act.put _ (some 4) _ = _
      simp only [Act.put, la_, lz_, ls_, i64_w, i32_w]
      rfl
     exact norm_ (by first | (simp only [putAll, Act.put, la_, lz_, ls_]; done) | (simp only [putAll, Act.put, la_, lz_, ls_]; rfl)) (hJ5_6_11 (v14003, gb14006) _ ⟨hHeld, (Kd.ur_ HO489.out), (u_ BK484.out), (u_ BK494.out), GW494.out, GE494.out, NB484_494.out, NB494_484.out, (us_ HB.out)⟩)
    skip
    rintro ⟨v14003, gb14006⟩ w14008 ⟨hS_, h0_, h1_, h2_, h3_, h4_, h5_, h6_, h7_⟩
    have n0_ : Aside0 (Kd.R (Kd.int .u8) 5 w14008 w.heap.size (fun _ => True) v14003 y487) := ⟨h0_⟩
    have n1_ : Aside0 (w14008.heap[gb13240]? = some (.cells #[.int .i64 0, .int .i64 0, .slice none 0 0] 44 (0, 0))) := ⟨h1_⟩
    have n2_ : Aside0 (w14008.heap[gb14006]? = some (.cells #[.int .i64 0, .int .i64 0, .slice none 0 0] 44 (0, 0))) := ⟨h2_⟩
    have n3_ : Aside0 (w.heap.size ≤ gb14006) := ⟨h3_⟩
    have n4_ : Aside0 (w.heap.size ≤ gb14006) := ⟨h4_⟩
    have n5_ : Aside0 (gb13240 ≠ gb14006) := ⟨h5_⟩
    have n6_ : Aside0 (gb14006 ≠ gb13240) := ⟨h6_⟩
    have n7_ : Aside0 (Below w.heap.size w w14008) := ⟨h7_⟩
    clear BK484
    clear HB
    clear h0_ h1_ h2_ h3_ h4_ h5_ h6_ h7_
    have HO489 := n0_
    have BK484 := n1_
    have BK494 := n2_
    have GW494 := n3_
    have GE494 := ge_ n4_.out
    have NB484_494 := nq_ n5_.out
    have NB494_484 := nq_ n6_.out
    have HB := n7_
    clear n0_ n1_ n2_ n3_ n4_ n5_ n6_ n7_
    have hHeld : w14008.cell? ad13320 = some (.int .u8 (rd l0 0)) := hS_
    refine norm_ (a' := ?_) ?_ ?_
    rotate_left
    ·simp only [putAll, Act.put, la_, lz_, ls_]
     rfl
    refine one_ (i := 9) (N := some 18) #[T_, T_, T_, T_, T_, T_, T_, T_, T_, T_, F_, T_, F_] rfl rfl (one_of HT_.out (by kernel_rfl)) (by decide) (fun K hK => ?_)
    refine Kd.R_append_rows_step (Kd.int .u8) (w0 := w) w.heap.size (by rfl) (.tmp 15) (.tmp 17) 22 5 (.int .u8 0) 1 rfl Try.underlying22 info5 rfl (by decide) (by omega) v14003 y487 (l0.drop 4) _ _ _ (fun _ => True) (fun _ => False) rfl rfl ?aO ?aR (fun _ _ h => h) (fun _ h => h.elim) ?aF ?aB ?aS ?aL ?_
    (case aR => first | (have e_ := (Kd.C_below HR13244.out HB.out); rw [show (l0.drop 4).length = (l0.length - 4) from List.length_drop] at e_; exact e_) | (rw [← show (l0.drop 4).length = (l0.length - 4) from List.length_drop]; repeat (first | exact (Kd.C_below HR13244.out HB.out) | (with_reducible refine Kd.C_alloc ?_ _) | (with_reducible refine Kd.C_drewN ?_ _) | (with_reducible refine Kd.C_drew ?_))) | (repeat (first | exact (Kd.C_below HR13244.out HB.out) | (with_reducible refine Kd.C_alloc ?_ _) | (with_reducible refine Kd.C_drewN ?_ _) | (with_reducible refine Kd.C_drew ?_))))
    (case aB => exact (us_ HB.out))
    (case aF => exact (fun _ _ => trivial))
    (case aO => exact (Kd.ur_ HO489.out))
    (case aS => exact (below_size (us_ HB.out)))
    (case aL => have := LMc8.out; have hlx_ := (show (l0.drop 4).length = (l0.length - 4) from List.length_drop); omega)
    intro v14009 w3250493 ho hb hg hat
    rw [← Ny491.out] at ho
    have n0_ := mk_ (blk_grown (g := gb13240) (o := .cells #[.int .i64 0, .int .i64 0, .slice none 0 0] 44 (0, 0)) (u_ BK484.out) hg (Kd.R_ne HO489.out BK484.out (by decide)))
    have n1_ := mk_ (blk_grown (g := gb14006) (o := .cells #[.int .i64 0, .int .i64 0, .slice none 0 0] 44 (0, 0)) (u_ BK494.out) hg (Kd.R_ne HO489.out BK494.out (by decide)))
    have n2_ := mk_ (hb)
    have n3_ := mk_ (ho)
    clear BK484
    clear BK494
    clear HB
    clear HO489
    have BK484 := n0_
    have BK494 := n1_
    have HB := n2_
    have HO493 := n3_
    clear n0_ n1_ n2_ n3_
    clear ho hb hg hat
    obtain ⟨Ao3250493, co3250493, eo3250493⟩ := Kd.R_slice HO493.out
    (first | subst eo3250493 | (injection eo3250493 with f1_ f2_ f3_; have f4_ := f1_.symm; have f5_ := f3_.symm; clear f1_ f2_ f3_; subst f4_; subst f5_))
    refine hK.out _ _ (((HB.out.cell (lc_ w _ hw485_0)).trans hw485_0)) (fun hHeld => ?_)
    clear hK K
    refine norm_ (a' := ?_) ?_ ?_
    rotate_left
    ·show Act.put _ (some 18) _ = _
     simp only [Act.put, la_, lz_, ls_, i64_w, i32_w]
     rfl
    refine pure_ (i := 10) (N := some 19) (v := ?_) (a' := ?_) #[T_, T_, T_, T_, T_, T_, T_, T_, T_, T_, T_, T_, F_] rfl rfl (any_of HT_.out (by kernel_rfl)) (fun _ _ _ h => h) (Or.inl ⟨by rfl, ?_⟩) ?_ ?_
    rotate_left
    ·intro w'
     go_simp
     with_reducible rfl
    rotate_left
    ·simp only [Act.put, la_, lz_, ls_, i64_w, i32_w]
     rfl
    exact norm_ (by first | (simp only [putAll, Act.put, la_, lz_, ls_]; done) | (simp only [putAll, Act.put, la_, lz_, ls_]; rfl)) (hJ5_6_9_11 (v14003, .slice Ao3250493 y491.length co3250493, gb14006) _ ⟨hHeld, (Kd.ur_ HO493.out), (u_ BK484.out), (u_ BK494.out), GW494.out, GE494.out, NB484_494.out, NB494_484.out, (us_ HB.out)⟩)
   skip
   rintro ⟨v14003, v14009⟩ w3250493 ⟨hS_, h0_, h1_, h2_⟩
   have n0_ : Aside0 (Kd.R (Kd.int .u8) 5 w3250493 w.heap.size (fun _ => True) v14009 y491) := ⟨h0_⟩
   have n1_ : Aside0 (w3250493.heap[gb13240]? = some (.cells #[.int .i64 0, .int .i64 0, .slice none 0 0] 44 (0, 0))) := ⟨h1_⟩
   have n2_ : Aside0 (Below w.heap.size w w3250493) := ⟨h2_⟩
   clear BK484
   clear HB
   clear h0_ h1_ h2_
   have HO493 := n0_
   have BK484 := n1_
   have HB := n2_
   clear n0_ n1_ n2_
   have hHeld : w3250493.cell? ad13320 = some (.int .u8 (rd l0 0)) := hS_
   obtain ⟨Ao3250493, co3250493, eo3250493⟩ := Kd.R_slice HO493.out
   (first | subst eo3250493 | (injection eo3250493 with f1_ f2_ f3_; have f4_ := f1_.symm; have f5_ := f3_.symm; clear f1_ f2_ f3_; subst f4_; subst f5_))
   refine norm_ (a' := ?_) ?_ ?_
   rotate_left
   ·simp only [putAll, Act.put, la_, lz_, ls_]
    rfl
   refine one_ (i := 11) (N := some 4) #[T_, T_, T_, T_, T_, T_, T_, T_, T_, T_, T_, T_, F_] rfl rfl (one_of HT_.out (by kernel_rfl)) (by decide) (fun K hK => ?_)
   refine box_step ?hg (N := 4) ?hd (cs := #[.int .i64 0, .int .i64 0, .slice none 0 0]) (t := 44) ?hr ?_; (case hd => rfl); (case hg => rfl); (case hr => first | (go_simp; done) | (go_simp; rfl))
   intro gb14006 hg w14010 hbox hb
   have n0_ := mk_ (Kd.R_below (Kd.ur_ HO493.out) hb)
   have n1_ := mk_ (blk_below (u_ BK484.out) hb)
   have n2_ := mk_ (below_step (us_ HB.out) hb)
   have n3_ := mk_ (hbox)
   have n4_ := mk_ ((by rw [hg]; exact (below_size (us_ HB.out)) : w.heap.size ≤ gb14006))
   have n5_ := mk_ ((by rw [hg]; exact (below_size (us_ HB.out)) : w.heap.size ≤ gb14006))
   have n6_ := mk_ ((by rw [hg]; exact Nat.ne_of_lt (blk_lt (u_ BK484.out)) : gb13240 ≠ gb14006))
   have n7_ := mk_ ((by rw [hg]; exact Nat.ne_of_gt (blk_lt (u_ BK484.out)) : gb14006 ≠ gb13240))
   clear HO493
   clear BK484
   clear HB
   have HO493 := n0_
   have BK484 := n1_
   have HB := n2_
   have BK494 := n3_
   have GW494 := n4_
   have GE494 := ge_ n5_.out
   have NB484_494 := nq_ n6_.out
   have NB494_484 := nq_ n7_.out
   clear n0_ n1_ n2_ n3_ n4_ n5_ n6_ n7_
   clear hb hbox hg
   refine hK.out _ _ (((HB.out.cell (lc_ w _ hw485_0)).trans hw485_0)) (fun hHeld => ?_)
   clear hK K
   refine norm_ (a' := ?_) ?_ ?_
   rotate_left
   ·show Act.put _ (some 4) _ = _
    simp only [Act.put, la_, lz_, ls_, i64_w, i32_w]
    rfl
   exact norm_ (by first | (simp only [putAll, Act.put, la_, lz_, ls_]; done) | (simp only [putAll, Act.put, la_, lz_, ls_]; rfl)) (hJ5_6_9_11 (v14003, .slice Ao3250493 y491.length co3250493, gb14006) _ ⟨hHeld, (Kd.ur_ HO493.out), (u_ BK484.out), (u_ BK494.out), GW494.out, GE494.out, NB484_494.out, NB494_484.out, (us_ HB.out)⟩)
  rintro ⟨v14003, v14009, gb14006⟩ w3250493 ⟨hS_, h0_, h1_, h2_, h3_, h4_, h5_, h6_, h7_⟩
  have n0_ : Aside0 (Kd.R (Kd.int .u8) 5 w3250493 w.heap.size (fun _ => True) v14009 y491) := ⟨h0_⟩
  have n1_ : Aside0 (w3250493.heap[gb13240]? = some (.cells #[.int .i64 0, .int .i64 0, .slice none 0 0] 44 (0, 0))) := ⟨h1_⟩
  have n2_ : Aside0 (w3250493.heap[gb14006]? = some (.cells #[.int .i64 0, .int .i64 0, .slice none 0 0] 44 (0, 0))) := ⟨h2_⟩
  have n3_ : Aside0 (w.heap.size ≤ gb14006) := ⟨h3_⟩
  have n4_ : Aside0 (w.heap.size ≤ gb14006) := ⟨h4_⟩
  have n5_ : Aside0 (gb13240 ≠ gb14006) := ⟨h5_⟩
  have n6_ : Aside0 (gb14006 ≠ gb13240) := ⟨h6_⟩
  have n7_ : Aside0 (Below w.heap.size w w3250493) := ⟨h7_⟩
  clear BK484
  clear HB
  clear h0_ h1_ h2_ h3_ h4_ h5_ h6_ h7_
  have HO493 := n0_
  have BK484 := n1_
  have BK494 := n2_
  have GW494 := n3_
  have GE494 := ge_ n4_.out
  have NB484_494 := nq_ n5_.out
  have NB494_484 := nq_ n6_.out
  have HB := n7_
  clear n0_ n1_ n2_ n3_ n4_ n5_ n6_ n7_
  have hHeld : w3250493.cell? ad13320 = some (.int .u8 (rd l0 0)) := hS_
  obtain ⟨Ao14010, co14010, eo14010⟩ := Kd.R_slice HO493.out
  (first | subst eo14010 | (injection eo14010 with f1_ f2_ f3_; have f4_ := f1_.symm; have f5_ := f3_.symm; clear f1_ f2_ f3_; subst f4_; subst f5_))
  refine norm_ (a' := ?_) ?_ ?_
  rotate_left
  ·simp only [putAll, Act.put, la_, lz_, ls_]
   rfl
  refine one_ (i := 12) (N := none) #[T_, T_, T_, T_, T_, T_, T_, T_, T_, T_, T_, T_, T_] rfl rfl (one_of HT_.out (by kernel_rfl)) (by decide) (fun K hK => ?_)
  have hs7640 : w3250493.cell? ⟨gb14006, 0, none⟩ = some (.int .i64 0) := (blk_cell BK494.out 0).trans rfl
  have hfs7640 := blk_frozen BK494.out 0
  have hns7640_0 := NB484_494.out
  have hms7640_0 := NB494_484.out
  have hs7800 : w3250493.cell? ⟨gb14006, 1, none⟩ = some (.int .i64 0) := (blk_cell BK494.out 1).trans rfl
  have hfs7800 := blk_frozen BK494.out 1
  have hns7800_0 := NB484_494.out
  have hms7800_0 := NB494_484.out
  have hs8920 : w3250493.cell? ⟨gb14006, 2, none⟩ = some (.slice none 0 0) := (blk_cell BK494.out 2).trans rfl
  have hfs8920 := blk_frozen BK494.out 2
  have hns8920_0 := NB484_494.out
  have hms8920_0 := NB494_484.out
  refine skip_ (w1 := ?_) (by rfl) rfl ?_ ?_
  rotate_left
  ·go_simp
   rfl
  refine hK.out _ _ (((cell_far (p := ⟨gb14006, _, none⟩) (by first | exact (ne1_ (by have := lc_ _ _ hw485_0; first | rwa [add_block] at this | exact this) GW494.out) | (rw [add_block]; exact (ne1_ (by have := lc_ _ _ hw485_0; first | rwa [add_block] at this | exact this) GW494.out)) | (show (Addr.add _ _).block ≠ _; rw [add_block]; exact (ne1_ (by have := lc_ _ _ hw485_0; first | rwa [add_block] at this | exact this) GW494.out)) | (dsimp only; exact (ne1_ (by have := lc_ _ _ hw485_0; first | rwa [add_block] at this | exact this) GW494.out))) _).trans (((cell_far (p := ⟨gb14006, _, none⟩) (by first | exact (ne1_ (by have := lc_ _ _ hw485_0; first | rwa [add_block] at this | exact this) GW494.out) | (rw [add_block]; exact (ne1_ (by have := lc_ _ _ hw485_0; first | rwa [add_block] at this | exact this) GW494.out)) | (show (Addr.add _ _).block ≠ _; rw [add_block]; exact (ne1_ (by have := lc_ _ _ hw485_0; first | rwa [add_block] at this | exact this) GW494.out)) | (dsimp only; exact (ne1_ (by have := lc_ _ _ hw485_0; first | rwa [add_block] at this | exact this) GW494.out))) _).trans (((cell_far (p := ⟨gb14006, _, none⟩) (by first | exact (ne1_ (by have := lc_ _ _ hw485_0; first | rwa [add_block] at this | exact this) GW494.out) | (rw [add_block]; exact (ne1_ (by have := lc_ _ _ hw485_0; first | rwa [add_block] at this | exact this) GW494.out)) | (show (Addr.add _ _).block ≠ _; rw [add_block]; exact (ne1_ (by have := lc_ _ _ hw485_0; first | rwa [add_block] at this | exact this) GW494.out)) | (dsimp only; exact (ne1_ (by have := lc_ _ _ hw485_0; first | rwa [add_block] at this | exact this) GW494.out))) _).trans (hHeld))))))) (fun hHeld => ?_)
  clear hK K
  refine done_ (done_of HT_.out (by kernel_rfl)) ?_
  try go_wp2
  have n0_ : Aside0 (Kd.R (Kd.int .u8) 5 (((w3250493.setCell ⟨gb14006, 0, none⟩ (.int .i64 (wrap64 (rd l0 0)))).setCell ⟨gb14006, 1, none⟩ (.int .i64 t486)).setCell ⟨gb14006, 2, none⟩ (.slice Ao14010 y491.length co14010)) w.heap.size (fun _ => True) (.slice Ao14010 y491.length co14010) y491) := ⟨by (with_reducible repeat (first | apply Kd.R_alloc | apply Kd.R_drewN | apply Kd.R_drew)); exact Kd.R_mono (Kd.R_far (p := ⟨gb14006, 2, none⟩) (Kd.R_far (p := ⟨gb14006, 1, none⟩) (Kd.R_far (p := ⟨gb14006, 0, none⟩) (Kd.R_types HO493.out BK494.out (by decide)) (fun _ hk => hk.2) (.int .i64 (wrap64 (rd l0 0)))) (fun _ hk => hk.2) (.int .i64 t486)) (fun _ hk => hk.2) (.slice Ao14010 y491.length co14010)) (fun _ hk => trivial)⟩
  have n1_ : Aside0 ((((w3250493.setCell ⟨gb14006, 0, none⟩ (.int .i64 (wrap64 (rd l0 0)))).setCell ⟨gb14006, 1, none⟩ (.int .i64 t486)).setCell ⟨gb14006, 2, none⟩ (.slice Ao14010 y491.length co14010)).heap[gb13240]? = some (.cells #[.int .i64 0, .int .i64 0, .slice none 0 0] 44 (0, 0))) := ⟨uf_ BK484.out⟩
  have n2_ : Aside0 ((((w3250493.setCell ⟨gb14006, 0, none⟩ (.int .i64 (wrap64 (rd l0 0)))).setCell ⟨gb14006, 1, none⟩ (.int .i64 t486)).setCell ⟨gb14006, 2, none⟩ (.slice Ao14010 y491.length co14010)).heap[gb14006]? = some (.cells #[.int .i64 (wrap64 (rd l0 0)), .int .i64 t486, .slice Ao14010 y491.length co14010] 44 (0, 0))) := ⟨by (with_reducible repeat (first | refine bn_ ?_ _ | refine bw_ ?_ | refine ba_ ?_ _)); refine blk_put (cs := #[.int .i64 (wrap64 (rd l0 0)), .int .i64 t486, .slice none 0 0]) ?_ 2 _ rfl; (with_reducible repeat (first | refine bn_ ?_ _ | refine bw_ ?_ | refine ba_ ?_ _)); refine blk_put (cs := #[.int .i64 (wrap64 (rd l0 0)), .int .i64 0, .slice none 0 0]) ?_ 1 _ rfl; (with_reducible repeat (first | refine bn_ ?_ _ | refine bw_ ?_ | refine ba_ ?_ _)); refine blk_put (cs := #[.int .i64 0, .int .i64 0, .slice none 0 0]) ?_ 0 _ rfl; (with_reducible repeat (first | refine bn_ ?_ _ | refine bw_ ?_ | refine ba_ ?_ _)); exact BK494.out⟩
  have n3_ : Aside0 (Below w.heap.size w (((w3250493.setCell ⟨gb14006, 0, none⟩ (.int .i64 (wrap64 (rd l0 0)))).setCell ⟨gb14006, 1, none⟩ (.int .i64 t486)).setCell ⟨gb14006, 2, none⟩ (.slice Ao14010 y491.length co14010))) := ⟨us_ HB.out⟩
  (try clear HO493)
  (try clear BK484)
  (try clear BK494)
  (try clear HB)
  generalize (((w3250493.setCell ⟨gb14006, 0, none⟩ (.int .i64 (wrap64 (rd l0 0)))).setCell ⟨gb14006, 1, none⟩ (.int .i64 t486)).setCell ⟨gb14006, 2, none⟩ (.slice Ao14010 y491.length co14010)) = w15080 at n0_ n1_ n2_ n3_ ⊢
  have HO493 := n0_
  have BK484 := n1_
  have BK494 := n2_
  have HB := n3_
  clear n0_ n1_ n2_ n3_
  have n0_ := mk_ (Kd.R_drew HO493.out)
  have n1_ := mk_ (blk_drew BK484.out)
  have n2_ := mk_ (blk_drew BK494.out)
  have n3_ := mk_ (below_drew1 HB.out)
  clear HO493
  clear BK484
  clear BK494
  clear HB
  have HO493 := n0_
  have BK484 := n1_
  have BK494 := n2_
  have HB := n3_
  clear n0_ n1_ n2_ n3_
 ·refine start_ (n := 13) (S := fun w' => w'.cell? ⟨gb14006, 0, none⟩ = some (.int .i64 (wrap64 (rd l0 0))) ∧ w'.cell? ⟨gb14006, 1, none⟩ = some (.int .i64 t486) ∧ w'.cell? ⟨gb14006, 2, none⟩ = some (.slice Ao14010 y491.length co14010)) (ds := []) #[F_, F_, F_, F_, F_, F_, F_, F_, F_, F_, F_, F_, F_] (by kernel_rfl) rfl rfl ⟨(blk_cell BK494.out 0).trans rfl, (blk_cell BK494.out 1).trans rfl, (blk_cell BK494.out 2).trans rfl⟩ (fun hHeld => ?_); refine with_tabW spec_NoteFrom.tab4 spec_NoteFrom.bits4 (fun HT_ HW_ => ?_)
  generalize w15080.drew = w15320 at HO493 BK484 BK494 HB hHeld ⊢
  refine take_ (i := 0) (N := some 20) (v := ?_) (a' := ?_) #[T_, F_, F_, F_, F_, F_, F_, F_, F_, F_, F_, F_, F_] rfl rfl (take_ofW HT_.out HW_.out (by kernel_rfl)) (fun _ _ _ h => h) (Or.inl ⟨by rfl, ?_⟩) hHeld ?_ ?_
  rotate_left
  ·rintro w' ⟨s13920, s15400, s15401⟩
   go_simp
   with_reducible rfl
  rotate_left
  ·simp only [Act.put, la_, lz_, ls_, i64_w, i32_w]
   rfl
  refine one_ (i := 1) (N := some 21) #[T_, T_, F_, F_, F_, F_, F_, F_, F_, F_, F_, F_, F_] rfl rfl (one_of HT_.out (by kernel_rfl)) (by decide) (fun K hK => ?_)
  refine goes_ Try.func102 (by kernel_rfl) rfl #[.agg #[.int .i64 (wrap64 (rd l0 0)), .int .i64 t486, .slice Ao14010 y491.length co14010]] (by rfl) rfl rfl (by (try simp only [lm_, lo_, ln_]); try rfl) ?_
  with_reducible refine (spec_NoteOk.calls (wrap64 (rd l0 0)) t486 _ _ y491 false _ ?side1 ?side2 A9.out).mono ?_
  (case side1 => repeat (first | exact (Kd.R_reads' HO493.out).2.2 | (with_reducible refine Kd.C_alloc ?_ _) | (with_reducible refine Kd.C_drewN ?_ _) | (with_reducible refine Kd.C_drew ?_)))
  (case side2 => exact (Kd.R_reads' HO493.out).2.1)
  rintro e w15560 ⟨rfl, hb⟩
  refine ⟨_, rfl, ?_⟩
  have n0_ := mk_ (Kd.R_below (Kd.ur_ HO493.out) hb)
  have n1_ := mk_ (blk_below (u_ BK484.out) hb)
  have n2_ := mk_ (blk_below (u_ BK494.out) hb)
  have n3_ := mk_ (below_step (us_ HB.out) hb)
  clear HO493
  clear BK484
  clear BK494
  clear HB
  have HO493 := n0_
  have BK484 := n1_
  have BK494 := n2_
  have HB := n3_
  clear n0_ n1_ n2_ n3_
  (try clear hb)
  (try clear hb2)
  (try clear hk)
  (try clear hi)
  refine hK.out _ _ ⟨(blk_cell BK494.out 0).trans rfl, (blk_cell BK494.out 1).trans rfl, (blk_cell BK494.out 2).trans rfl⟩ (fun hHeld => ?_)
  clear hK K
  refine norm_ (a' := ?_) ?_ ?_
  rotate_left
  ·show Act.put _ (some 21) _ = _
   simp only [Act.put, la_, lz_, ls_, i64_w, i32_w]
   rfl
  refine pure_ (i := 2) (N := some 22) (v := ?_) (a' := ?_) #[T_, T_, T_, F_, F_, F_, F_, F_, F_, F_, F_, F_, F_] rfl rfl (any_of HT_.out (by kernel_rfl)) (fun _ _ _ h => h) (Or.inl ⟨by rfl, ?_⟩) ?_ ?_
  rotate_left
  ·intro w'
   go_simp
   with_reducible rfl
  rotate_left
  ·simp only [Act.put, la_, lz_, ls_, i64_w, i32_w]
   rfl
  refine pure_ (i := 3) (N := some 23) (v := ?_) (a' := ?_) #[T_, T_, T_, T_, F_, F_, F_, F_, F_, F_, F_, F_, F_] rfl rfl (any_of HT_.out (by kernel_rfl)) (fun _ _ _ h => h) (Or.inl ⟨by rfl, ?_⟩) ?_ ?_
  rotate_left
  ·intro w'
   go_simp
   with_reducible rfl
  rotate_left
  ·simp only [Act.put, la_, lz_, ls_, i64_w, i32_w]
   rfl
  refine pure_ (i := 4) (N := some 24) (v := undef) (a' := ?_) #[T_, T_, T_, T_, T_, F_, F_, F_, F_, F_, F_, F_, F_] rfl rfl (any_of HT_.out (by kernel_rfl)) (fun _ _ _ h => h) (Or.inr ⟨by rfl, rfl⟩) ?_ ?_
  rotate_left
  ·simp only [Act.put, la_, lz_, ls_, i64_w, i32_w]
   rfl
  refine pure_ (i := 5) (N := some 25) (v := undef) (a' := ?_) #[T_, T_, T_, T_, T_, T_, F_, F_, F_, F_, F_, F_, F_] rfl rfl (any_of HT_.out (by kernel_rfl)) (fun _ _ _ h => h) (Or.inr ⟨by rfl, rfl⟩) ?_ ?_
  rotate_left
  ·simp only [Act.put, la_, lz_, ls_, i64_w, i32_w]
   rfl
  refine pure_ (i := 6) (N := some 26) (v := undef) (a' := ?_) #[T_, T_, T_, T_, T_, T_, T_, F_, F_, F_, F_, F_, F_] rfl rfl (any_of HT_.out (by kernel_rfl)) (fun _ _ _ h => h) (Or.inr ⟨by rfl, rfl⟩) ?_ ?_
  rotate_left
  ·simp only [Act.put, la_, lz_, ls_, i64_w, i32_w]
   rfl
  refine pure_ (i := 7) (N := some 27) (v := undef) (a' := ?_) #[T_, T_, T_, T_, T_, T_, T_, T_, F_, F_, F_, F_, F_] rfl rfl (any_of HT_.out (by kernel_rfl)) (fun _ _ _ h => h) (Or.inr ⟨by rfl, rfl⟩) ?_ ?_
  rotate_left
  ·simp only [Act.put, la_, lz_, ls_, i64_w, i32_w]
   rfl
  refine pure_ (i := 8) (N := some 28) (v := undef) (a' := ?_) #[T_, T_, T_, T_, T_, T_, T_, T_, T_, F_, F_, F_, F_] rfl rfl (any_of HT_.out (by kernel_rfl)) (fun _ _ _ h => h) (Or.inr ⟨by rfl, rfl⟩) ?_ ?_
  rotate_left
  ·simp only [Act.put, la_, lz_, ls_, i64_w, i32_w]
   rfl
  refine pure_ (i := 9) (N := some 29) (v := undef) (a' := ?_) #[T_, T_, T_, T_, T_, T_, T_, T_, T_, T_, F_, F_, F_] rfl rfl (any_of HT_.out (by kernel_rfl)) (fun _ _ _ h => h) (Or.inr ⟨by rfl, rfl⟩) ?_ ?_
  rotate_left
  ·simp only [Act.put, la_, lz_, ls_, i64_w, i32_w]
   rfl
  refine pure_ (i := 10) (N := some 30) (v := undef) (a' := ?_) #[T_, T_, T_, T_, T_, T_, T_, T_, T_, T_, T_, F_, F_] rfl rfl (any_of HT_.out (by kernel_rfl)) (fun _ _ _ h => h) (Or.inr ⟨by rfl, rfl⟩) ?_ ?_
  rotate_left
  ·simp only [Act.put, la_, lz_, ls_, i64_w, i32_w]
   rfl
  refine pure_ (i := 11) (N := some 31) (v := undef) (a' := ?_) #[T_, T_, T_, T_, T_, T_, T_, T_, T_, T_, T_, T_, F_] rfl rfl (any_of HT_.out (by kernel_rfl)) (fun _ _ _ h => h) (Or.inr ⟨by rfl, rfl⟩) ?_ ?_
  rotate_left
  ·simp only [Act.put, la_, lz_, ls_, i64_w, i32_w]
   rfl
  refine pure_ (i := 12) (N := some 32) (v := ?_) (a' := ?_) #[T_, T_, T_, T_, T_, T_, T_, T_, T_, T_, T_, T_, T_] rfl rfl (any_of HT_.out (by kernel_rfl)) (fun _ _ _ h => h) (Or.inl ⟨by rfl, ?_⟩) ?_ ?_
  rotate_left
  ·intro w'
   go_simp
   with_reducible rfl
  rotate_left
  ·simp only [Act.put, la_, lz_, ls_, i64_w, i32_w]
   rfl
  refine done_ (done_of HT_.out (by kernel_rfl)) ?_
  have hnb3990484494 := NB484_494.out
  have hnc3990484494 := NB494_484.out
  obtain ⟨_, _, _, _, _, _⟩ := cells3_ BK484.out
  try go_wp2
  refine bodyPost_ret (results_ct rfl _ _ gb13240 44 #[.int .i64 0, .int .i64 0, .slice none 0 0] (0, 0) _ rfl (by (with_reducible repeat (first | refine bn_ ?_ _ | refine bw_ ?_ | refine ba_ ?_ _)); refine blk_put (cs := #[.int .i64 0, .int .i64 0, .slice none 0 0]) ?_ 2 _ rfl; (with_reducible repeat (first | refine bn_ ?_ _ | refine bw_ ?_ | refine ba_ ?_ _)); refine blk_put (cs := #[.int .i64 0, .int .i64 0, .slice none 0 0]) ?_ 1 _ rfl; (with_reducible repeat (first | refine bn_ ?_ _ | refine bw_ ?_ | refine ba_ ?_ _)); refine blk_put (cs := #[.int .i64 0, .int .i64 0, .slice none 0 0]) ?_ 0 _ rfl; (with_reducible repeat (first | refine bn_ ?_ _ | refine bw_ ?_ | refine ba_ ?_ _)); exact BK484.out) Try.underlying44 rfl (by kernel_rfl)) rfl ?_
  exact ⟨_, by first | rfl | (simp [errW_none, errW_some] <;> rfl) | (simp [*, errW_none, errW_some] <;> rfl), by first | exact Kd.R_nil _ _ _ _ _ | exact Kd.N_nil _ _ _ _ _ | exact Kd.V_nil _ _ _ _ _ | exact Kd.Q_nil _ _ _ _ _ | exact Kd.S_nil _ _ _ _ _, us_ HB.out⟩
 all_goals
  have p17120 : 0 ≤ (3 : Int) := (by omega)
  have q17120 : 3 < (l0.length : Int) := of_decide_eq_true (by first | (with_reducible assumption) | assumption)
  obtain ⟨ad17120, e17120, hx496_0⟩ := Kd.at_int HR0.out 3 p17120 q17120
  have hw496_0 := hx496_0
  (try rw [show ((3 : Int)).toNat = 3 from rfl] at hw496_0)
  (try rw [show 3 * 1 = 3 from rfl] at hw496_0)
  (try simp only [Nat.reduceMul, Nat.reduceEqDiff, Go.Addr.add, ↓reduceIte] at hw496_0)
  obtain rfl : ad13320 = ad17120 := (by injection e17120)
  (try simp only [show (3 : Int).toNat = 3 from rfl, Nat.reduceMul, Nat.reduceEqDiff, Go.Addr.add, ↓reduceIte] at hx496_0)
  have qi17120 : (3 < l0.length) = True := eq_true (by omega)
  (try rw [show ((3 : Int)).toNat = 3 from rfl] at hx496_0)
  replace hx496_0 := (HB.out.cell (lc_ w _ hx496_0)).trans hx496_0
  replace p17120 := eq_true p17120
  replace q17120 := eq_true q17120
  refine start_ (n := 13) (S := fun w' => w'.cell? ⟨gb14006, 0, none⟩ = some (.int .i64 (wrap64 (rd l0 0))) ∧ w'.cell? ⟨gb14006, 1, none⟩ = some (.int .i64 t486) ∧ w'.cell? ⟨gb14006, 2, none⟩ = some (.slice Ao14010 y491.length co14010) ∧ w'.cell? ⟨ad13320.block, ad13320.off + 3, none⟩ = some (.int .u8 (rd l0 3))) (ds := []) #[F_, F_, F_, F_, F_, F_, F_, F_, F_, F_, F_, F_, F_] (by kernel_rfl) rfl rfl ⟨(blk_cell BK494.out 0).trans rfl, (blk_cell BK494.out 1).trans rfl, (blk_cell BK494.out 2).trans rfl, ((HB.out.cell (lc_ w _ hw496_0)).trans hw496_0)⟩ (fun hHeld => ?_); refine with_tabW spec_NoteFrom.tab4 spec_NoteFrom.bits4 (fun HT_ HW_ => ?_)
  generalize w15080.drew = w17680 at HO493 BK484 BK494 HB hx496_0 hHeld ⊢
  refine take_ (i := 0) (N := some 20) (v := ?_) (a' := ?_) #[T_, F_, F_, F_, F_, F_, F_, F_, F_, F_, F_, F_, F_] rfl rfl (take_ofW HT_.out HW_.out (by kernel_rfl)) (fun _ _ _ h => h) (Or.inl ⟨by rfl, ?_⟩) hHeld ?_ ?_
  rotate_left
  ·rintro w' ⟨s13920, s17720, s17721, s17722⟩
   go_simp
   with_reducible rfl
  rotate_left
  ·simp only [Act.put, la_, lz_, ls_, i64_w, i32_w]
   rfl
  refine one_ (i := 1) (N := some 21) #[T_, T_, F_, F_, F_, F_, F_, F_, F_, F_, F_, F_, F_] rfl rfl (one_of HT_.out (by kernel_rfl)) (by decide) (fun K hK => ?_)
  refine goes_ Try.func102 (by kernel_rfl) rfl #[.agg #[.int .i64 (wrap64 (rd l0 0)), .int .i64 t486, .slice Ao14010 y491.length co14010]] (by rfl) rfl rfl (by (try simp only [lm_, lo_, ln_]); try rfl) ?_
  with_reducible refine (spec_NoteOk.calls (wrap64 (rd l0 0)) t486 _ _ y491 true _ ?side1 ?side2 A9.out).mono ?_
  (case side1 => repeat (first | exact (Kd.R_reads' HO493.out).2.2 | (with_reducible refine Kd.C_alloc ?_ _) | (with_reducible refine Kd.C_drewN ?_ _) | (with_reducible refine Kd.C_drew ?_)))
  (case side2 => exact (Kd.R_reads' HO493.out).2.1)
  rintro e w15560 ⟨rfl, hb⟩
  refine ⟨_, rfl, ?_⟩
  have n0_ := mk_ (Kd.R_below (Kd.ur_ HO493.out) hb)
  have n1_ := mk_ (blk_below (u_ BK484.out) hb)
  have n2_ := mk_ (blk_below (u_ BK494.out) hb)
  have n3_ := mk_ (below_step (us_ HB.out) hb)
  clear HO493
  clear BK484
  clear BK494
  clear HB
  have HO493 := n0_
  have BK484 := n1_
  have BK494 := n2_
  have HB := n3_
  clear n0_ n1_ n2_ n3_
  (try clear hb)
  (try clear hb2)
  (try clear hk)
  (try clear hi)
  refine hK.out _ _ ⟨(blk_cell BK494.out 0).trans rfl, (blk_cell BK494.out 1).trans rfl, (blk_cell BK494.out 2).trans rfl, ((HB.out.cell (lc_ w _ hw496_0)).trans hw496_0)⟩ (fun hHeld => ?_)
  clear hK K
  refine norm_ (a' := ?_) ?_ ?_
  rotate_left
  ·show Act.put _ (some 21) _ = _
   simp only [Act.put, la_, lz_, ls_, i64_w, i32_w]
   rfl
  refine pure_ (i := 2) (N := some 22) (v := ?_) (a' := ?_) #[T_, T_, T_, F_, F_, F_, F_, F_, F_, F_, F_, F_, F_] rfl rfl (any_of HT_.out (by kernel_rfl)) (fun _ _ _ h => h) (Or.inl ⟨by rfl, ?_⟩) ?_ ?_
  rotate_left
  ·intro w'
   go_simp
   with_reducible rfl
  rotate_left
  ·simp only [Act.put, la_, lz_, ls_, i64_w, i32_w]
   rfl
  refine pure_ (i := 3) (N := some 23) (v := ?_) (a' := ?_) #[T_, T_, T_, T_, F_, F_, F_, F_, F_, F_, F_, F_, F_] rfl rfl (any_of HT_.out (by kernel_rfl)) (fun _ _ _ h => h) (Or.inl ⟨by rfl, ?_⟩) ?_ ?_
  rotate_left
  ·intro w'
   go_simp
   with_reducible rfl
  rotate_left
  ·simp only [Act.put, la_, lz_, ls_, i64_w, i32_w]
   rfl
  refine pure_ (i := 4) (N := some 24) (v := ?_) (a' := ?_) #[T_, T_, T_, T_, T_, F_, F_, F_, F_, F_, F_, F_, F_] rfl rfl (any_of HT_.out (by kernel_rfl)) (fun _ _ _ h => h) (Or.inl ⟨by rfl, ?_⟩) ?_ ?_
  rotate_left
  ·intro w'
   go_simp
   with_reducible rfl
  rotate_left
  ·simp only [Act.put, la_, lz_, ls_, i64_w, i32_w]
   rfl
  refine pure_ (i := 5) (N := some 25) (v := ?_) (a' := ?_) #[T_, T_, T_, T_, T_, T_, F_, F_, F_, F_, F_, F_, F_] rfl rfl (any_of HT_.out (by kernel_rfl)) (fun _ _ _ h => h) (Or.inl ⟨by rfl, ?_⟩) ?_ ?_
  rotate_left
  ·intro w'
   go_simp
   with_reducible rfl
  rotate_left
  ·simp only [Act.put, la_, lz_, ls_, i64_w, i32_w]
   rfl
  refine pure_ (i := 8) (N := some 28) (v := ?_) (a' := ?_) #[T_, T_, T_, T_, T_, T_, F_, F_, T_, F_, F_, F_, F_] rfl rfl (any_of HT_.out (by kernel_rfl)) (fun _ _ _ h => h) (Or.inl ⟨by rfl, ?_⟩) ?_ ?_
  rotate_left
  ·intro w'
   go_simp
   with_reducible rfl
  rotate_left
  ·simp only [Act.put, la_, lz_, ls_, i64_w, i32_w]
   rfl
  refine take_ (i := 6) (N := some 26) (v := ?_) (a' := ?_) #[T_, T_, T_, T_, T_, T_, T_, F_, T_, F_, F_, F_, F_] rfl rfl (take_ofW HT_.out HW_.out (by kernel_rfl)) (fun _ _ _ h => h) (Or.inl ⟨by rfl, ?_⟩) hHeld ?_ ?_
  rotate_left
  ·rintro w' ⟨s13920, s17720, s17721, s17722⟩
   go_simp
   with_reducible rfl
  rotate_left
  ·simp only [Act.put, la_, lz_, ls_, i64_w, i32_w]
   rfl
  refine pure_ (i := 7) (N := some 27) (v := ?_) (a' := ?_) #[T_, T_, T_, T_, T_, T_, T_, T_, T_, F_, F_, F_, F_] rfl rfl (any_of HT_.out (by kernel_rfl)) (fun _ _ _ h => h) (Or.inl ⟨by rfl, ?_⟩) ?_ ?_
  rotate_left
  ·intro w'
   go_simp
   with_reducible rfl
  rotate_left
  ·simp only [Act.put, la_, lz_, ls_, i64_w, i32_w]
   rfl
  refine take_ (i := 9) (N := some 29) (v := ?_) (a' := ?_) #[T_, T_, T_, T_, T_, T_, T_, T_, T_, T_, F_, F_, F_] rfl rfl (take_ofW HT_.out HW_.out (by kernel_rfl)) (fun _ _ _ h => h) (Or.inl ⟨by rfl, ?_⟩) hHeld ?_ ?_
  rotate_left
  ·rintro w' ⟨s13920, s17720, s17721, s17722⟩
   go_simp
   with_reducible rfl
  rotate_left
  ·simp only [Act.put, la_, lz_, ls_, i64_w, i32_w]
   rfl
  refine pure_ (i := 10) (N := some 30) (v := ?_) (a' := ?_) #[T_, T_, T_, T_, T_, T_, T_, T_, T_, T_, T_, F_, F_] rfl rfl (any_of HT_.out (by kernel_rfl)) (fun _ _ _ h => h) (Or.inl ⟨by rfl, ?_⟩) ?_ ?_
  rotate_left
  ·intro w'
   go_simp
   with_reducible rfl
  rotate_left
  ·simp only [Act.put, la_, lz_, ls_, i64_w, i32_w]
   rfl
  refine pure_ (i := 11) (N := some 31) (v := ?_) (a' := ?_) #[T_, T_, T_, T_, T_, T_, T_, T_, T_, T_, T_, T_, F_] rfl rfl (any_of HT_.out (by kernel_rfl)) (fun _ _ _ h => h) (Or.inl ⟨by rfl, ?_⟩) ?_ ?_
  rotate_left
  ·intro w'
   go_simp
   with_reducible rfl
  rotate_left
  ·simp only [Act.put, la_, lz_, ls_, i64_w, i32_w]
   rfl
  refine pure_ (i := 12) (N := some 32) (v := ?_) (a' := ?_) #[T_, T_, T_, T_, T_, T_, T_, T_, T_, T_, T_, T_, T_] rfl rfl (any_of HT_.out (by kernel_rfl)) (fun _ _ _ h => h) (Or.inl ⟨by rfl, ?_⟩) ?_ ?_
  rotate_left
  ·intro w'
   go_simp
   with_reducible rfl
  rotate_left
  ·simp only [Act.put, la_, lz_, ls_, i64_w, i32_w]
   rfl
  refine done_ (done_of HT_.out (by kernel_rfl)) ?_
 ·have hnb3990484494 := NB484_494.out
  have hnc3990484494 := NB494_484.out
  obtain ⟨_, _, _, _, _, _⟩ := cells3_ BK484.out
  try go_wp2
  refine bodyPost_ret (results_ct rfl _ _ gb13240 44 #[.int .i64 0, .int .i64 0, .slice none 0 0] (0, 0) _ rfl (by (with_reducible repeat (first | refine bn_ ?_ _ | refine bw_ ?_ | refine ba_ ?_ _)); refine blk_put (cs := #[.int .i64 0, .int .i64 0, .slice none 0 0]) ?_ 2 _ rfl; (with_reducible repeat (first | refine bn_ ?_ _ | refine bw_ ?_ | refine ba_ ?_ _)); refine blk_put (cs := #[.int .i64 0, .int .i64 0, .slice none 0 0]) ?_ 1 _ rfl; (with_reducible repeat (first | refine bn_ ?_ _ | refine bw_ ?_ | refine ba_ ?_ _)); refine blk_put (cs := #[.int .i64 0, .int .i64 0, .slice none 0 0]) ?_ 0 _ rfl; (with_reducible repeat (first | refine bn_ ?_ _ | refine bw_ ?_ | refine ba_ ?_ _)); exact BK484.out) Try.underlying44 rfl (by kernel_rfl)) rfl ?_
  exact ⟨_, by first | rfl | (simp [errW_none, errW_some] <;> rfl) | (simp [*, errW_none, errW_some] <;> rfl), by first | exact Kd.R_nil _ _ _ _ _ | exact Kd.N_nil _ _ _ _ _ | exact Kd.V_nil _ _ _ _ _ | exact Kd.Q_nil _ _ _ _ _ | exact Kd.S_nil _ _ _ _ _, us_ HB.out⟩
 ·have hnb3990484494 := NB494_484.out
  have hnc3990484494 := NB484_494.out
  obtain ⟨_, _, _, _, _, _⟩ := cells3_ BK494.out
  obtain ⟨_, _, _, _, _, _⟩ := cells3_ BK484.out
  try go_wp2
  refine bodyPost_ret (results_ct rfl _ _ gb13240 44 #[.int .i64 (wrap64 (rd l0 0)), .int .i64 t486, .slice Ao14010 y491.length co14010] (0, 0) _ rfl (by (with_reducible repeat (first | refine bn_ ?_ _ | refine bw_ ?_ | refine ba_ ?_ _)); refine blk_put (cs := #[.int .i64 (wrap64 (rd l0 0)), .int .i64 t486, .slice none 0 0]) ?_ 2 _ rfl; (with_reducible repeat (first | refine bn_ ?_ _ | refine bw_ ?_ | refine ba_ ?_ _)); refine blk_put (cs := #[.int .i64 (wrap64 (rd l0 0)), .int .i64 0, .slice none 0 0]) ?_ 1 _ rfl; (with_reducible repeat (first | refine bn_ ?_ _ | refine bw_ ?_ | refine ba_ ?_ _)); refine blk_put (cs := #[.int .i64 0, .int .i64 0, .slice none 0 0]) ?_ 0 _ rfl; (with_reducible repeat (first | refine bn_ ?_ _ | refine bw_ ?_ | refine ba_ ?_ _)); exact BK484.out) Try.underlying44 rfl (by kernel_rfl)) rfl ?_
  exact ⟨_, by first | rfl | (simp [errW_none, errW_some] <;> rfl) | (simp [*, errW_none, errW_some] <;> rfl), by (with_reducible repeat (first | apply Kd.R_alloc | apply Kd.R_drewN | apply Kd.R_drew)); exact Kd.R_mono (Kd.R_far (p := ⟨gb13240, 2, none⟩) (Kd.R_far (p := ⟨gb13240, 1, none⟩) (Kd.R_far (p := ⟨gb13240, 0, none⟩) (Kd.R_types HO493.out BK484.out (by decide)) (fun _ hk => hk.2) (.int .i64 (wrap64 (rd l0 0)))) (fun _ hk => hk.2) (.int .i64 t486)) (fun _ hk => hk.2) (.slice Ao14010 y491.length co14010)) (fun _ hk => trivial), us_ HB.out⟩

end Go.Proofs.Ytkkibccnpkbbjab.MFnNoteAbout
