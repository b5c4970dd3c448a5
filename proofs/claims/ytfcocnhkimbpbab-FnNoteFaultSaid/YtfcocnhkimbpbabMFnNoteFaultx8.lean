/- Functions that the law FnNoteFault reaches, each with the proof that the machine's call comes to just its answer; no conditions but those that each theorem states. Printed by a program of this session over the kit's print. -/
import Derived.Test.YtfcocnhkimbpbabMFnNoteFaultx0
import Derived.Test.YtfcocnhkimbpbabMFnNoteFaultx1
import Derived.Test.YtfcocnhkimbpbabMFnNoteFaultx7
namespace Go.Proofs.Ytfcocnhkimbpbab.MFnNoteFault
open Go.RowKit Go.Proofs.YtfcocnhkimbpbabV.PrintWords Go.Proofs.YtfcocnhkimbpbabV.PrintLast Go.Proofs.YtfcocnhkimbpbabV.PrintMore
attribute [local go_sem] max2_int min2_int max_two min_two max_three min_three max_four min_four   -- for this text's walks alone
set_option linter.unusedVariables false
set_option linter.unusedSimpArgs false

/-! ### spec_NoteFrom: function 42 -/
def spec_NoteFrom.f (k : Nat) (l0 : List Int) : Option (Int × Int × List Int × Bool) := if (l0.length : Int) < 4 then (some (0, 0, ([] : List Int), false)) else (if 0 < (l0.length : Int) then ((spec_NumberAt.f k l0 1 2).bind fun t328 => ((some (([] : List Int) : List Int)).bind fun y329 => (if 4 ≤ (l0.length : Int) then (if y329.length + (l0.drop 4).length < 140737488355328 then ((some (y329 ++ (l0.drop 4) : List Int)).bind fun y333 => ((spec_NoteOk.f (wrap64 (rd l0 0)) t328 y333).bind fun t337 => (if t337 = true then (if 3 < (l0.length : Int) then (if (wrap64 (rd l0 3)) = (y333.length : Int) then (some (wrap64 (rd l0 0), t328, y333, true)) else (some (0, 0, ([] : List Int), false))) else (none)) else (some (0, 0, ([] : List Int), false))))) else (none)) else (none)))) else (none))
theorem spec_NoteFrom.mono : ∀ a0 k, LeO (spec_NoteFrom.f k a0) (spec_NoteFrom.f (k + 1) a0) := by
 intro a0 k
 unfold spec_NoteFrom.f
 repeat' first
   | (with_reducible exact spec_NumberAt.mono _ _ _ _)
   | (with_reducible exact LeO.refl _)
   | (with_reducible exact LeO.none _)
   | (with_reducible refine LeO.ite ?_ ?_)
   | (with_reducible refine LeO.bind ?_ (fun _ => ?_))
   | exact spec_NumberAt.mono _ _ _ _
   | exact LeO.none _
   | refine LeO.ite ?_ ?_
   | refine LeO.bind ?_ (fun _ => ?_)
def spec_NoteFrom.T3 : Bool × List (List Nat × List Nat) := (true, [([], []), ([0], [0]), ([1], [1]), ([2], [2]), ([], []), ([4], [4]), ([], []), ([], []), ([7], [7]), ([6, 8, 5], [6, 8]), ([3, 5, 9], [3, 5, 9]), ([], []), ([11, 10, 9, 0, 1, 2, 3, 4, 5, 6, 7, 8, 9, 10, 11], [10, 11])])
def spec_NoteFrom.B3 : List Nat := [0, 1, 3, 7, 0, 16, 0, 0, 128, 496, 1023, 0, 4095]
theorem spec_NoteFrom.tab3 : rtab .any (opsOf Try.f42 3) = spec_NoteFrom.T3 := by kernel_rfl
theorem spec_NoteFrom.bits3 : waitsOk spec_NoteFrom.T3.2 spec_NoteFrom.B3 = true := by kernel_rfl
def spec_NoteFrom.T4 : Bool × List (List Nat × List Nat) := (true, [([], []), ([0], [0]), ([1], [1]), ([2, 1], [2]), ([3], [3]), ([4, 3], [3, 4]), ([5, 3], [3, 5]), ([6, 3], [3, 6]), ([3], [3]), ([8, 3], [3, 8]), ([9, 3], [3, 9]), ([7, 10, 3], [3, 7, 10]), ([3, 11], [3, 11])])
def spec_NoteFrom.B4 : List Nat := [0, 1, 3, 7, 15, 31, 63, 127, 15, 271, 783, 2047, 4095]
theorem spec_NoteFrom.tab4 : rtab .any (opsOf Try.f42 4) = spec_NoteFrom.T4 := by kernel_rfl
theorem spec_NoteFrom.bits4 : waitsOk spec_NoteFrom.T4.2 spec_NoteFrom.B4 = true := by kernel_rfl
set_option maxHeartbeats 8000000 in
set_option maxRecDepth 100000 in
theorem spec_NoteFrom.calls (k : Nat) (A0 : Option Addr) (c0 : Nat) (l0 : List Int) (r1 : Int) (r2 : Int) (r3 : List Int) (r4 : Bool) (w : World) (hr0 : Kd.C (Kd.int .u8) w A0 l0.length l0) (hc0 : l0.length ≤ c0) (h : spec_NoteFrom.f k l0 = some (r1, r2, r3, r4)) :
  Calls Try.prog 42 #[.slice A0 l0.length c0] w fun e w' => ∃ v2_ : Value, e = .returned (.tuple #[.agg #[.int .i64 r1, .int .i64 r2, v2_], .bool r4]) ∧ Kd.R (Kd.int .u8) 5 w' w.heap.size (fun _ => True) v2_ r3 ∧ Below w.heap.size w w' := by
 have hu68 := Try.underlying68
 have HR0 := mk_ hr0
 have HC0 := mk_ hc0
 clear hr0 hc0
 have HB := mk_ (Below.refl w.heap.size w)
 have H : (if (l0.length : Int) < 4 then (some (0, 0, ([] : List Int), false)) else (if 0 < (l0.length : Int) then ((spec_NumberAt.f k l0 1 2).bind fun t328 => ((some (([] : List Int) : List Int)).bind fun y329 => (if 4 ≤ (l0.length : Int) then (if y329.length + (l0.drop 4).length < 140737488355328 then ((some (y329 ++ (l0.drop 4) : List Int)).bind fun y333 => ((spec_NoteOk.f (wrap64 (rd l0 0)) t328 y333).bind fun t337 => (if t337 = true then (if 3 < (l0.length : Int) then (if (wrap64 (rd l0 3)) = (y333.length : Int) then (some (wrap64 (rd l0 0), t328, y333, true)) else (some (0, 0, ([] : List Int), false))) else (none)) else (some (0, 0, ([] : List Int), false))))) else (none)) else (none)))) else (none))) = some (r1, r2, r3, r4) := h
 clear h
 by_cases c2 : (l0.length : Int) < 4
 ·rw [if_pos c2] at H
  have c2b0 : decide ((l0.length : Int) < 4) = true := decide_eq_true c2
  have c2b1 : decide (l0.length < 4) = true := decide_eq_true (by omega)
  clear c2
  simp only [Option.some.injEq, Prod.mk.injEq] at H
  obtain ⟨rfl, rfl, rfl, rfl⟩ := H
  go_enter Try.func42, Try.ntmps42
  go_wp2_with (first | ((with_reducible refine gate_dst (N := 2) rfl ?_); refine box_event ?hg (N := 2) ?hd (cs := #[.int .i64 0, .int .i64 0, .slice none 0 0]) (t := 68) ?hr ?_; (case hd => rfl); (case hg => rfl); (case hr => first | (go_simp; done) | (go_simp; rfl)); intro gb326 hg w3 hbox hb; have n0_ := mk_ (below_step (ub_ HB.out) hb); have n1_ := mk_ (hbox); have n2_ := mk_ ((by rw [hg]; exact (below_size (ub_ HB.out)) : w.heap.size ≤ gb326)); have n3_ := mk_ ((by rw [hg]; exact (below_size (ub_ HB.out)) : w.heap.size ≤ gb326)); clear HB; have HB := n0_; have BK326 := n1_; have GW326 := n2_; have GE326 := ge_ n3_.out; clear n0_ n1_ n2_ n3_; clear hb hbox hg; obtain ⟨hcz4_0, hcz4_1, hcz4_2, hfz4_0, hfz4_1, hfz4_2⟩ := cells3_ BK326.out))
  refine bodyPost_ret (results_ct rfl _ _ gb326 68 #[.int .i64 0, .int .i64 0, .slice none 0 0] (0, 0) _ rfl (by (with_reducible repeat (first | refine bn_ ?_ _ | refine bw_ ?_ | refine ba_ ?_ _)); refine blk_put (cs := #[.int .i64 0, .int .i64 0, .slice none 0 0]) ?_ 2 _ rfl; (with_reducible repeat (first | refine bn_ ?_ _ | refine bw_ ?_ | refine ba_ ?_ _)); refine blk_put (cs := #[.int .i64 0, .int .i64 0, .slice none 0 0]) ?_ 1 _ rfl; (with_reducible repeat (first | refine bn_ ?_ _ | refine bw_ ?_ | refine ba_ ?_ _)); refine blk_put (cs := #[.int .i64 0, .int .i64 0, .slice none 0 0]) ?_ 0 _ rfl; (with_reducible repeat (first | refine bn_ ?_ _ | refine bw_ ?_ | refine ba_ ?_ _)); exact BK326.out) Try.underlying68 rfl (by kernel_rfl)) rfl ?_
  exact ⟨_, by first | rfl | (simp [errW_none, errW_some] <;> rfl) | (simp [*, errW_none, errW_some] <;> rfl), by first | exact Kd.R_nil _ _ _ _ _ | exact Kd.N_nil _ _ _ _ _ | exact Kd.V_nil _ _ _ _ _ | exact Kd.Q_nil _ _ _ _ _ | exact Kd.S_nil _ _ _ _ _, us_ HB.out⟩
 rw [if_neg c2] at H
 have c2b0 : decide ((l0.length : Int) < 4) = false := decide_eq_false c2
 have c2b1 : decide (l0.length < 4) = false := decide_eq_false (by omega)
 clear c2
 by_cases c5 : 0 < (l0.length : Int)
 rotate_left
 ·rw [if_neg c5] at H
  exact absurd H (by simp)
 rw [if_pos c5] at H
 have c5b0 : decide (0 < (l0.length : Int)) = true := decide_eq_true c5
 have c5b1 : decide (0 < l0.length) = true := decide_eq_true (by omega)
 clear c5
 replace H := Option.bind_eq_some_iff.mp H
 obtain ⟨t328, A60, H⟩ := H
 replace H : ((some (([] : List Int) : List Int)).bind fun y329 => (if 4 ≤ (l0.length : Int) then (if y329.length + (l0.drop 4).length < 140737488355328 then ((some (y329 ++ (l0.drop 4) : List Int)).bind fun y333 => ((spec_NoteOk.f (wrap64 (rd l0 0)) t328 y333).bind fun t337 => (if t337 = true then (if 3 < (l0.length : Int) then (if (wrap64 (rd l0 3)) = (y333.length : Int) then (some (wrap64 (rd l0 0), t328, y333, true)) else (some (0, 0, ([] : List Int), false))) else (none)) else (some (0, 0, ([] : List Int), false))))) else (none)) else (none))) = some (r1, r2, r3, r4) := H
 have A6 := mk_ A60
 clear A60
 obtain ⟨y329, hy329⟩ : ∃ y_ : List Int, y_ = (([] : List Int)) := ⟨_, rfl⟩
 replace H : (if 4 ≤ (l0.length : Int) then (if y329.length + (l0.drop 4).length < 140737488355328 then ((some (y329 ++ (l0.drop 4) : List Int)).bind fun y333 => ((spec_NoteOk.f (wrap64 (rd l0 0)) t328 y333).bind fun t337 => (if t337 = true then (if 3 < (l0.length : Int) then (if (wrap64 (rd l0 3)) = (y333.length : Int) then (some (wrap64 (rd l0 0), t328, y333, true)) else (some (0, 0, ([] : List Int), false))) else (none)) else (some (0, 0, ([] : List Int), false))))) else (none)) else (none)) = some (r1, r2, r3, r4) := by first | (rw [hy329]; with_reducible exact H) | (have H2_ := (Option.bind_some _ _).symm.trans H; rw [hy329]; with_reducible exact H2_) | (have H2_ := (Option.bind_some _ _).symm.trans H; with_reducible exact H2_) | with_reducible exact H | (rw [hy329]; exact H) | exact H
 have Ny329 := mk_ hy329
 clear hy329
 by_cases c7 : 4 ≤ (l0.length : Int)
 rotate_left
 ·rw [if_neg c7] at H
  exact absurd H (by simp)
 rw [if_pos c7] at H
 have c7b0 := eq_true c7
 have c7b1 : decide (4 ≤ (l0.length : Int)) = true := decide_eq_true c7
 clear c7
 by_cases c8 : y329.length + (l0.drop 4).length < 140737488355328
 rotate_left
 ·rw [if_neg c8] at H
  exact absurd H (by simp)
 rw [if_pos c8] at H
 have LMc8 := mk_ c8
 clear c8
 obtain ⟨y333, hy333⟩ : ∃ y_ : List Int, y_ = (y329 ++ (l0.drop 4)) := ⟨_, rfl⟩
 replace H : ((spec_NoteOk.f (wrap64 (rd l0 0)) t328 y333).bind fun t337 => (if t337 = true then (if 3 < (l0.length : Int) then (if (wrap64 (rd l0 3)) = (y333.length : Int) then (some (wrap64 (rd l0 0), t328, y333, true)) else (some (0, 0, ([] : List Int), false))) else (none)) else (some (0, 0, ([] : List Int), false)))) = some (r1, r2, r3, r4) := by first | (rw [hy333]; with_reducible exact H) | (have H2_ := (Option.bind_some _ _).symm.trans H; rw [hy333]; with_reducible exact H2_) | (have H2_ := (Option.bind_some _ _).symm.trans H; with_reducible exact H2_) | with_reducible exact H | (rw [hy333]; exact H) | exact H
 have Ny333 := mk_ hy333
 clear hy333
 replace H := Option.bind_eq_some_iff.mp H
 obtain ⟨t337, A90, H⟩ := H
 replace H : (if t337 = true then (if 3 < (l0.length : Int) then (if (wrap64 (rd l0 3)) = (y333.length : Int) then (some (wrap64 (rd l0 0), t328, y333, true)) else (some (0, 0, ([] : List Int), false))) else (none)) else (some (0, 0, ([] : List Int), false))) = some (r1, r2, r3, r4) := H
 have A9 := mk_ A90
 clear A90
 by_cases c10 : t337 = true
 rotate_left
 ·replace c10 := Bool.eq_false_iff.mpr c10
  subst c10
  have H1 : (some (0, 0, ([] : List Int), false)) = some (r1, r2, r3, r4) := by rw [if_neg (show ¬ (false = true) by decide)] at H; exact H
  clear H
  have H := H1
  clear H1
  simp only [Option.some.injEq, Prod.mk.injEq] at H
  obtain ⟨rfl, rfl, rfl, rfl⟩ := H
  go_enter Try.func42, Try.ntmps42
  try go_wp2_with (first | ((with_reducible refine gate_dst (N := 2) rfl ?_); refine box_event ?hg (N := 2) ?hd (cs := #[.int .i64 0, .int .i64 0, .slice none 0 0]) (t := 68) ?hr ?_; (case hd => rfl); (case hg => rfl); (case hr => first | (go_simp; done) | (go_simp; rfl)); intro gb326 hg w50 hbox hb; have n0_ := mk_ (below_step (ub_ HB.out) hb); have n1_ := mk_ (hbox); have n2_ := mk_ ((by rw [hg]; exact (below_size (ub_ HB.out)) : w.heap.size ≤ gb326)); have n3_ := mk_ ((by rw [hg]; exact (below_size (ub_ HB.out)) : w.heap.size ≤ gb326)); clear HB; have HB := n0_; have BK326 := n1_; have GW326 := n2_; have GE326 := ge_ n3_.out; clear n0_ n1_ n2_ n3_; clear hb hbox hg; obtain ⟨i051, hi051, _, hsz51, _⟩ := info_parts info5; obtain ⟨A51, hcut51, hA51, hC51⟩ := print_drop_of (P := Try.prog) (Value.int .u8) 0 22 5 .i64 Try.underlying22 hi051 hsz51 A0 c0 l0 4 (by omega) (of_decide_eq_true (by first | (with_reducible assumption) | assumption)) HC0.out; have HR332 := mk_ (Kd.C_of_reads (h1 := fun _ => rfl) (hA51 _ (Kd.reads_of_C HR0.out))); have HC332 := mk_ hC51; clear hA51 hC51 hi051 hsz51))
  have n0_ := mk_ (blk_drew BK326.out)
  have n1_ := mk_ (below_drew1 HB.out)
  clear BK326
  clear HB
  have BK326 := n0_
  have HB := n1_
  clear n0_ n1_
  have p327 : 0 ≤ (0 : Int) := (by omega)
  have q327 : 0 < (l0.length : Int) := of_decide_eq_true (by first | (with_reducible assumption) | assumption)
  obtain ⟨ad327, e327, hx327_0⟩ := Kd.at_int HR0.out 0 p327 q327
  have hw327_0 := hx327_0
  (try rw [show ((0 : Int)).toNat = 0 from rfl] at hw327_0)
  (try rw [show 0 * 1 = 0 from rfl] at hw327_0)
  (try rw [Addr.add_zero'] at hw327_0)
  cases e327
  have qi327 : (0 < l0.length) = True := eq_true (by omega)
  (try rw [show ((0 : Int)).toNat = 0 from rfl] at hx327_0)
  (try rw [Addr.add_zero'] at hx327_0)
  replace hx327_0 := (HB.out.cell (lc_ w _ hx327_0)).trans hx327_0
  replace p327 := eq_true p327
  replace q327 := eq_true q327
  refine start_ (n := 13) (S := fun w' => w'.cell? ad327 = some (.int .u8 (rd l0 0))) (ds := []) #[F_, F_, F_, F_, F_, F_, F_, F_, F_, F_, F_, F_, F_] (by kernel_rfl) rfl rfl (((HB.out.cell (lc_ w _ hw327_0)).trans hw327_0)) (fun hHeld => ?_); refine with_tabW spec_NoteFrom.tab3 spec_NoteFrom.bits3 (fun HT_ HW_ => ?_)
  generalize w50.drew = w52 at BK326 HB hx327_0 hHeld ⊢
  refine pure_ (i := 0) (N := some 9) (v := ?_) (a' := ?_) #[T_, F_, F_, F_, F_, F_, F_, F_, F_, F_, F_, F_, F_] rfl rfl (any_of HT_.out (by kernel_rfl)) (fun _ _ _ h => h) (Or.inl ⟨by rfl, ?_⟩) ?_ ?_
  rotate_left
  ·intro w'
   go_simp
   with_reducible rfl
  rotate_left
  ·simp only [Act.put, la_, lz_, ls_, i64_w, i32_w]
   rfl
  refine pure_ (i := 1) (N := some 10) (v := ?_) (a' := ?_) #[T_, T_, F_, F_, F_, F_, F_, F_, F_, F_, F_, F_, F_] rfl rfl (any_of HT_.out (by kernel_rfl)) (fun _ _ _ h => h) (Or.inl ⟨by rfl, ?_⟩) ?_ ?_
  rotate_left
  ·intro w'
   go_simp
   with_reducible rfl
  rotate_left
  ·simp only [Act.put, la_, lz_, ls_, i64_w, i32_w]
   rfl
  refine pure_ (i := 4) (N := some 13) (v := ?_) (a' := ?_) #[T_, T_, F_, F_, T_, F_, F_, F_, F_, F_, F_, F_, F_] rfl rfl (any_of HT_.out (by kernel_rfl)) (fun _ _ _ h => h) (Or.inl ⟨by rfl, ?_⟩) ?_ ?_
  rotate_left
  ·intro w'
   go_simp
   with_reducible rfl
  rotate_left
  ·simp only [Act.put, la_, lz_, ls_, i64_w, i32_w]
   rfl
  refine pure_ (i := 7) (N := some 16) (v := ?_) (a' := ?_) #[T_, T_, F_, F_, T_, F_, F_, T_, F_, F_, F_, F_, F_] rfl rfl (any_of HT_.out (by kernel_rfl)) (fun _ _ _ h => h) (Or.inl ⟨by rfl, ?_⟩) ?_ ?_
  rotate_left
  ·intro w'
   go_simp
   with_reducible rfl
  rotate_left
  ·simp only [Act.put, la_, lz_, ls_, i64_w, i32_w]
   rfl
  refine pure_ (i := 8) (N := some 17) (v := ?_) (a' := ?_) #[T_, T_, F_, F_, T_, F_, F_, T_, T_, F_, F_, F_, F_] rfl rfl (any_of HT_.out (by kernel_rfl)) (fun _ _ _ h => h) (Or.inl ⟨by rfl, ?_⟩) ?_ ?_
  rotate_left
  ·intro w'
   go_simp
   with_reducible rfl
  rotate_left
  ·simp only [Act.put, la_, lz_, ls_, i64_w, i32_w]
   rfl
  refine take_ (i := 2) (N := some 11) (v := ?_) (a' := ?_) #[T_, T_, T_, F_, T_, F_, F_, T_, T_, F_, F_, F_, F_] rfl rfl (take_ofW HT_.out HW_.out (by kernel_rfl)) (fun _ _ _ h => h) (Or.inl ⟨by rfl, ?_⟩) hHeld ?_ ?_
  rotate_left
  ·intro w' s0
   go_simp
   with_reducible rfl
  rotate_left
  ·simp only [Act.put, la_, lz_, ls_, i64_w, i32_w]
   rfl
  refine pure_ (i := 3) (N := some 12) (v := ?_) (a' := ?_) #[T_, T_, T_, T_, T_, F_, F_, T_, T_, F_, F_, F_, F_] rfl rfl (any_of HT_.out (by kernel_rfl)) (fun _ _ _ h => h) (Or.inl ⟨by rfl, ?_⟩) ?_ ?_
  rotate_left
  ·intro w'
   go_simp
   with_reducible rfl
  rotate_left
  ·simp only [Act.put, la_, lz_, ls_, i64_w, i32_w]
   rfl
  refine join_ (σ := Value × Value × Nat) 1 #[T_, T_, T_, T_, T_, T_, T_, T_, T_, T_, T_, T_, F_] (fun s_ => [(14, .int .i64 t328), (15, s_.1), (18, s_.2.1), (4, .pointer (some ⟨s_.2.2, 0, none⟩)), (19, .agg #[.int .i64 (wrap64 (rd l0 0)), .int .i64 t328, s_.2.1])]) (fun s_ w' => (w'.cell? ad327 = some (.int .u8 (rd l0 0))) ∧ (Kd.R (Kd.int .u8) 5 w' w.heap.size (fun _ => True) s_.2.1 y333) ∧ (w'.heap[gb326]? = some (.cells #[.int .i64 0, .int .i64 0, .slice none 0 0] 68 (0, 0))) ∧ (w'.heap[s_.2.2]? = some (.cells #[.int .i64 0, .int .i64 0, .slice none 0 0] 68 (0, 0))) ∧ (w.heap.size ≤ s_.2.2) ∧ (w.heap.size ≤ s_.2.2) ∧ (gb326 ≠ s_.2.2) ∧ (s_.2.2 ≠ gb326) ∧ (Below w.heap.size w w')) ?_ ?_
  rotate_left
  ·intro hJ5_6_9_11
   refine join_ (σ := Value × Value) 2 #[T_, T_, T_, T_, T_, T_, T_, T_, T_, T_, T_, F_, F_] (fun s_ => [(14, .int .i64 t328), (15, s_.1), (18, s_.2), (19, .agg #[.int .i64 (wrap64 (rd l0 0)), .int .i64 t328, s_.2])]) (fun s_ w' => (w'.cell? ad327 = some (.int .u8 (rd l0 0))) ∧ (Kd.R (Kd.int .u8) 5 w' w.heap.size (fun _ => True) s_.2 y333) ∧ (w'.heap[gb326]? = some (.cells #[.int .i64 0, .int .i64 0, .slice none 0 0] 68 (0, 0))) ∧ (Below w.heap.size w w')) ?_ ?_
   rotate_left
   ·intro hJ5_6_9
    refine join_ (σ := Value × Nat) 3 #[T_, T_, T_, T_, T_, T_, T_, T_, T_, F_, F_, T_, F_] (fun s_ => [(14, .int .i64 t328), (15, s_.1), (4, .pointer (some ⟨s_.2, 0, none⟩))]) (fun s_ w' => (w'.cell? ad327 = some (.int .u8 (rd l0 0))) ∧ (Kd.R (Kd.int .u8) 5 w' w.heap.size (fun _ => True) s_.1 y329) ∧ (w'.heap[gb326]? = some (.cells #[.int .i64 0, .int .i64 0, .slice none 0 0] 68 (0, 0))) ∧ (w'.heap[s_.2]? = some (.cells #[.int .i64 0, .int .i64 0, .slice none 0 0] 68 (0, 0))) ∧ (w.heap.size ≤ s_.2) ∧ (w.heap.size ≤ s_.2) ∧ (gb326 ≠ s_.2) ∧ (s_.2 ≠ gb326) ∧ (Below w.heap.size w w')) ?_ ?_
    rotate_left
    ·intro hJ5_6_11
     refine join_ (σ := Value) 4 #[T_, T_, T_, T_, T_, T_, T_, T_, T_, F_, F_, F_, F_] (fun s_ => [(14, .int .i64 t328), (15, s_)]) (fun s_ w' => (w'.cell? ad327 = some (.int .u8 (rd l0 0))) ∧ (Kd.R (Kd.int .u8) 5 w' w.heap.size (fun _ => True) s_ y329) ∧ (w'.heap[gb326]? = some (.cells #[.int .i64 0, .int .i64 0, .slice none 0 0] 68 (0, 0))) ∧ (Below w.heap.size w w')) ?_ ?_
     rotate_left
     ·intro hJ5_6
      refine join_ (σ := Nat) 4 #[T_, T_, T_, T_, T_, T_, F_, T_, T_, F_, F_, T_, F_] (fun s_ => [(14, .int .i64 t328), (4, .pointer (some ⟨s_, 0, none⟩))]) (fun s_ w' => (w'.cell? ad327 = some (.int .u8 (rd l0 0))) ∧ (w'.heap[gb326]? = some (.cells #[.int .i64 0, .int .i64 0, .slice none 0 0] 68 (0, 0))) ∧ (w'.heap[s_]? = some (.cells #[.int .i64 0, .int .i64 0, .slice none 0 0] 68 (0, 0))) ∧ (w.heap.size ≤ s_) ∧ (w.heap.size ≤ s_) ∧ (gb326 ≠ s_) ∧ (s_ ≠ gb326) ∧ (Below w.heap.size w w')) ?_ ?_
      rotate_left
      ·intro hJ5_11
       refine join_ (σ := Value × Nat) 4 #[T_, T_, T_, T_, T_, F_, T_, T_, T_, F_, F_, T_, F_] (fun s_ => [(15, s_.1), (4, .pointer (some ⟨s_.2, 0, none⟩))]) (fun s_ w' => (w'.cell? ad327 = some (.int .u8 (rd l0 0))) ∧ (Kd.R (Kd.int .u8) 5 w' w.heap.size (fun _ => True) s_.1 y329) ∧ (w'.heap[gb326]? = some (.cells #[.int .i64 0, .int .i64 0, .slice none 0 0] 68 (0, 0))) ∧ (w'.heap[s_.2]? = some (.cells #[.int .i64 0, .int .i64 0, .slice none 0 0] 68 (0, 0))) ∧ (w.heap.size ≤ s_.2) ∧ (w.heap.size ≤ s_.2) ∧ (gb326 ≠ s_.2) ∧ (s_.2 ≠ gb326) ∧ (Below w.heap.size w w')) ?_ ?_
       rotate_left
       ·intro hJ6_11
        refine join_ (σ := Unit) 5 #[T_, T_, T_, T_, T_, T_, F_, T_, T_, F_, F_, F_, F_] (fun s_ => [(14, .int .i64 t328)]) (fun s_ w' => (w'.cell? ad327 = some (.int .u8 (rd l0 0))) ∧ (w'.heap[gb326]? = some (.cells #[.int .i64 0, .int .i64 0, .slice none 0 0] 68 (0, 0))) ∧ (Below w.heap.size w w')) ?_ ?_
        rotate_left
        ·intro hJ5
         refine join_ (σ := Value) 5 #[T_, T_, T_, T_, T_, F_, T_, T_, T_, F_, F_, F_, F_] (fun s_ => [(15, s_)]) (fun s_ w' => (w'.cell? ad327 = some (.int .u8 (rd l0 0))) ∧ (Kd.R (Kd.int .u8) 5 w' w.heap.size (fun _ => True) s_ y329) ∧ (w'.heap[gb326]? = some (.cells #[.int .i64 0, .int .i64 0, .slice none 0 0] 68 (0, 0))) ∧ (Below w.heap.size w w')) ?_ ?_
         rotate_left
         ·intro hJ6
          refine join_ (σ := Nat) 5 #[T_, T_, T_, T_, T_, F_, F_, T_, T_, F_, F_, T_, F_] (fun s_ => [(4, .pointer (some ⟨s_, 0, none⟩))]) (fun s_ w' => (w'.cell? ad327 = some (.int .u8 (rd l0 0))) ∧ (w'.heap[gb326]? = some (.cells #[.int .i64 0, .int .i64 0, .slice none 0 0] 68 (0, 0))) ∧ (w'.heap[s_]? = some (.cells #[.int .i64 0, .int .i64 0, .slice none 0 0] 68 (0, 0))) ∧ (w.heap.size ≤ s_) ∧ (w.heap.size ≤ s_) ∧ (gb326 ≠ s_) ∧ (s_ ≠ gb326) ∧ (Below w.heap.size w w')) ?_ ?_
          rotate_left
          ·intro hJ11
           refine three_ (i := 5) (j := 6) (k := 11) (Ni := some 14) (Nj := some 15) (Nk := some 4) #[T_, T_, T_, T_, T_, T_, F_, T_, T_, F_, F_, F_, F_] #[T_, T_, T_, T_, T_, F_, T_, T_, T_, F_, F_, F_, F_] #[T_, T_, T_, T_, T_, F_, F_, T_, T_, F_, F_, T_, F_] rfl rfl rfl rfl rfl rfl (three_of HT_.out (by kernel_rfl)) (by decide) (by decide) (by decide) (fun K hK => ?_) (fun K hK => ?_) (fun K hK => ?_)
           ·skip
            refine goes_ Try.func81 (by kernel_rfl) rfl #[.slice (some ad327) l0.length c0, .int .i64 1, .int .i64 2] (by rfl) rfl rfl (by (try simp only [lm_, lo_, ln_]); first | done | rfl | (simp only [List.length_drop, List.length_take]; rfl)) ?_
            with_reducible refine (spec_NumberAt.calls k _ _ l0 1 2 t328 _ ?side1 ?side2 A6.out).mono ?_
            (case side1 => repeat (first | exact (Kd.C_below HR0.out HB.out) | (with_reducible refine Kd.C_alloc ?_ _) | (with_reducible refine Kd.C_drewN ?_ _) | (with_reducible refine Kd.C_drew ?_)))
            (case side2 => exact HC0.out)
            rintro e w' ⟨rfl, ⟨nd, rfl⟩⟩
            refine ⟨_, rfl, ?_⟩
            refine hK.out _ _ (((HB.out.cell (lc_ w _ hw327_0)).trans hw327_0)) (fun hHeld => ?_)
            clear hK K
            refine norm_ (a' := ?_) ?_ ?_
            rotate_left
            ·show Act.put _ (some 14) _ = _
             simp only [Act.put, la_, lz_, ls_, i64_w, i32_w]
             rfl
            exact norm_ (by first | (simp only [putAll, Act.put, la_, lz_, ls_]; done) | (simp only [putAll, Act.put, la_, lz_, ls_]; rfl)) (hJ5 () _ ⟨hHeld, (u_ BK326.out), (us_ HB.out)⟩)
           ·skip
            refine Kd.R_lit_step (Kd.int .u8) _ 5 ?hg (N := 15) ?hd (xs := ([] : List Int)) (inner := []) (ok := fun _ => True) (okp := fun _ => True) ?hr ?hp (fun _ hk => hk) trivial (Below.refl _ _) (Nat.le_refl _) (by simp) ?_; (case hd => rfl); (case hg => rfl); (case hr => first | (go_simp; done) | (go_simp; rfl)); (case hp => exact (Reps.none _ _))
            intro v330 w53 ho54 hb hg_ hnew_
            clear hg_ hnew_
            (first | rw [← Ny329.out] at ho54 | (simp only [Int.reduceToNat] at ho54; rw [← Ny329.out] at ho54))
            have n0_ := mk_ (Kd.R_lower ho54 (below_size (us_ HB.out)))
            have n1_ := mk_ (blk_below (u_ BK326.out) hb)
            have n2_ := mk_ (below_step (us_ HB.out) hb)
            clear BK326
            clear HB
            have HO331 := n0_
            have BK326 := n1_
            have HB := n2_
            clear n0_ n1_ n2_
            clear hb ho54
            refine hK.out _ _ (((HB.out.cell (lc_ w _ hw327_0)).trans hw327_0)) (fun hHeld => ?_)
            clear hK K
            refine norm_ (a' := ?_) ?_ ?_
            rotate_left
            ·show Act.put _ (some 15) _ = _
             simp only [Act.put, la_, lz_, ls_, i64_w, i32_w]
             rfl
            exact norm_ (by first | (simp only [putAll, Act.put, la_, lz_, ls_]; done) | (simp only [putAll, Act.put, la_, lz_, ls_]; rfl)) (hJ6 (v330) _ ⟨hHeld, (Kd.ur_ HO331.out), (u_ BK326.out), (us_ HB.out)⟩)
           skip
           refine box_step ?hg (N := 4) ?hd (cs := #[.int .i64 0, .int .i64 0, .slice none 0 0]) (t := 68) ?hr ?_; (case hd => rfl); (case hg => rfl); (case hr => first | (go_simp; done) | (go_simp; rfl))
           intro gb336 hg w53 hbox hb
           have n0_ := mk_ (blk_below (u_ BK326.out) hb)
           have n1_ := mk_ (below_step (us_ HB.out) hb)
           have n2_ := mk_ (hbox)
           have n3_ := mk_ ((by rw [hg]; exact (below_size (us_ HB.out)) : w.heap.size ≤ gb336))
           have n4_ := mk_ ((by rw [hg]; exact (below_size (us_ HB.out)) : w.heap.size ≤ gb336))
           have n5_ := mk_ ((by rw [hg]; exact Nat.ne_of_lt (blk_lt (u_ BK326.out)) : gb326 ≠ gb336))
           have n6_ := mk_ ((by rw [hg]; exact Nat.ne_of_gt (blk_lt (u_ BK326.out)) : gb336 ≠ gb326))
           clear BK326
           clear HB
           have BK326 := n0_
           have HB := n1_
           have BK336 := n2_
           have GW336 := n3_
           have GE336 := ge_ n4_.out
           have NB326_336 := nq_ n5_.out
           have NB336_326 := nq_ n6_.out
           clear n0_ n1_ n2_ n3_ n4_ n5_ n6_
           clear hb hbox hg
           refine hK.out _ _ (((HB.out.cell (lc_ w _ hw327_0)).trans hw327_0)) (fun hHeld => ?_)
           clear hK K
           refine norm_ (a' := ?_) ?_ ?_
           rotate_left
           ·show Act.put _ (some 4) _ = _
            simp only [Act.put, la_, lz_, ls_, i64_w, i32_w]
            rfl
           exact norm_ (by first | (simp only [putAll, Act.put, la_, lz_, ls_]; done) | (simp only [putAll, Act.put, la_, lz_, ls_]; rfl)) (hJ11 (gb336) _ ⟨hHeld, (u_ BK326.out), (u_ BK336.out), GW336.out, GE336.out, NB326_336.out, NB336_326.out, (us_ HB.out)⟩)
          skip
          rintro gb336 w54 ⟨hS_, h0_, h1_, h2_, h3_, h4_, h5_, h6_⟩
          have n0_ : Aside0 (w54.heap[gb326]? = some (.cells #[.int .i64 0, .int .i64 0, .slice none 0 0] 68 (0, 0))) := ⟨h0_⟩
          have n1_ : Aside0 (w54.heap[gb336]? = some (.cells #[.int .i64 0, .int .i64 0, .slice none 0 0] 68 (0, 0))) := ⟨h1_⟩
          have n2_ : Aside0 (w.heap.size ≤ gb336) := ⟨h2_⟩
          have n3_ : Aside0 (w.heap.size ≤ gb336) := ⟨h3_⟩
          have n4_ : Aside0 (gb326 ≠ gb336) := ⟨h4_⟩
          have n5_ : Aside0 (gb336 ≠ gb326) := ⟨h5_⟩
          have n6_ : Aside0 (Below w.heap.size w w54) := ⟨h6_⟩
          clear BK326
          clear HB
          clear h0_ h1_ h2_ h3_ h4_ h5_ h6_
          have BK326 := n0_
          have BK336 := n1_
          have GW336 := n2_
          have GE336 := ge_ n3_.out
          have NB326_336 := nq_ n4_.out
          have NB336_326 := nq_ n5_.out
          have HB := n6_
          clear n0_ n1_ n2_ n3_ n4_ n5_ n6_
          have hHeld : w54.cell? ad327 = some (.int .u8 (rd l0 0)) := hS_
          refine norm_ (a' := ?_) ?_ ?_
          rotate_left
          ·simp only [putAll, Act.put, la_, lz_, ls_]
           rfl
          refine two_ (i := 5) (j := 6) (Ni := some 14) (Nj := some 15) #[T_, T_, T_, T_, T_, T_, F_, T_, T_, F_, F_, T_, F_] #[T_, T_, T_, T_, T_, F_, T_, T_, T_, F_, F_, T_, F_] rfl rfl rfl rfl (two_of HT_.out (by kernel_rfl)) (by decide) (by decide) (fun K hK => ?_) (fun K hK => ?_)
          ·skip
           refine goes_ Try.func81 (by kernel_rfl) rfl #[.slice (some ad327) l0.length c0, .int .i64 1, .int .i64 2] (by rfl) rfl rfl (by (try simp only [lm_, lo_, ln_]); first | done | rfl | (simp only [List.length_drop, List.length_take]; rfl)) ?_
           with_reducible refine (spec_NumberAt.calls k _ _ l0 1 2 t328 _ ?side1 ?side2 A6.out).mono ?_
           (case side1 => repeat (first | exact (Kd.C_below HR0.out HB.out) | (with_reducible refine Kd.C_alloc ?_ _) | (with_reducible refine Kd.C_drewN ?_ _) | (with_reducible refine Kd.C_drew ?_)))
           (case side2 => exact HC0.out)
           rintro e w' ⟨rfl, ⟨nd, rfl⟩⟩
           refine ⟨_, rfl, ?_⟩
           refine hK.out _ _ (((HB.out.cell (lc_ w _ hw327_0)).trans hw327_0)) (fun hHeld => ?_)
           clear hK K
           refine norm_ (a' := ?_) ?_ ?_
           rotate_left
           ·show Act.put _ (some 14) _ = _
            simp only [Act.put, la_, lz_, ls_, i64_w, i32_w]
            rfl
           exact norm_ (by first | (simp only [putAll, Act.put, la_, lz_, ls_]; done) | (simp only [putAll, Act.put, la_, lz_, ls_]; rfl)) (hJ5_11 (gb336) _ ⟨hHeld, (u_ BK326.out), (u_ BK336.out), GW336.out, GE336.out, NB326_336.out, NB336_326.out, (us_ HB.out)⟩)
          skip
          refine Kd.R_lit_step (Kd.int .u8) _ 5 ?hg (N := 15) ?hd (xs := ([] : List Int)) (inner := []) (ok := fun _ => True) (okp := fun _ => True) ?hr ?hp (fun _ hk => hk) trivial (Below.refl _ _) (Nat.le_refl _) (by simp) ?_; (case hd => rfl); (case hg => rfl); (case hr => first | (go_simp; done) | (go_simp; rfl)); (case hp => exact (Reps.none _ _))
          intro v330 w55 ho56 hb hg_ hnew_
          clear hg_ hnew_
          (first | rw [← Ny329.out] at ho56 | (simp only [Int.reduceToNat] at ho56; rw [← Ny329.out] at ho56))
          have n0_ := mk_ (Kd.R_lower ho56 (below_size (us_ HB.out)))
          have n1_ := mk_ (blk_below (u_ BK326.out) hb)
          have n2_ := mk_ (blk_below (u_ BK336.out) hb)
          have n3_ := mk_ (below_step (us_ HB.out) hb)
          clear BK326
          clear BK336
          clear HB
          have HO331 := n0_
          have BK326 := n1_
          have BK336 := n2_
          have HB := n3_
          clear n0_ n1_ n2_ n3_
          clear hb ho56
          refine hK.out _ _ (((HB.out.cell (lc_ w _ hw327_0)).trans hw327_0)) (fun hHeld => ?_)
          clear hK K
          refine norm_ (a' := ?_) ?_ ?_
          rotate_left
          ·show Act.put _ (some 15) _ = _
           simp only [Act.put, la_, lz_, ls_, i64_w, i32_w]
           rfl
          exact norm_ (by first | (simp only [putAll, Act.put, la_, lz_, ls_]; done) | (simp only [putAll, Act.put, la_, lz_, ls_]; rfl)) (hJ6_11 (v330, gb336) _ ⟨hHeld, (Kd.ur_ HO331.out), (u_ BK326.out), (u_ BK336.out), GW336.out, GE336.out, NB326_336.out, NB336_326.out, (us_ HB.out)⟩)
         skip
         rintro v330 w55 ⟨hS_, h0_, h1_, h2_⟩
         have n0_ : Aside0 (Kd.R (Kd.int .u8) 5 w55 w.heap.size (fun _ => True) v330 y329) := ⟨h0_⟩
         have n1_ : Aside0 (w55.heap[gb326]? = some (.cells #[.int .i64 0, .int .i64 0, .slice none 0 0] 68 (0, 0))) := ⟨h1_⟩
         have n2_ : Aside0 (Below w.heap.size w w55) := ⟨h2_⟩
         clear BK326
         clear HB
         clear h0_ h1_ h2_
         have HO331 := n0_
         have BK326 := n1_
         have HB := n2_
         clear n0_ n1_ n2_
         have hHeld : w55.cell? ad327 = some (.int .u8 (rd l0 0)) := hS_
         refine norm_ (a' := ?_) ?_ ?_
         rotate_left
         ·simp only [putAll, Act.put, la_, lz_, ls_]
          rfl
         refine two_ (i := 5) (j := 11) (Ni := some 14) (Nj := some 4) #[T_, T_, T_, T_, T_, T_, T_, T_, T_, F_, F_, F_, F_] #[T_, T_, T_, T_, T_, F_, T_, T_, T_, F_, F_, T_, F_] rfl rfl rfl rfl (two_of HT_.out (by kernel_rfl)) (by decide) (by decide) (fun K hK => ?_) (fun K hK => ?_)
         ·skip
          refine goes_ Try.func81 (by kernel_rfl) rfl #[.slice (some ad327) l0.length c0, .int .i64 1, .int .i64 2] (by rfl) rfl rfl (by (try simp only [lm_, lo_, ln_]); first | done | rfl | (simp only [List.length_drop, List.length_take]; rfl)) ?_
          with_reducible refine (spec_NumberAt.calls k _ _ l0 1 2 t328 _ ?side1 ?side2 A6.out).mono ?_
          (case side1 => repeat (first | exact (Kd.C_below HR0.out HB.out) | (with_reducible refine Kd.C_alloc ?_ _) | (with_reducible refine Kd.C_drewN ?_ _) | (with_reducible refine Kd.C_drew ?_)))
          (case side2 => exact HC0.out)
          rintro e w' ⟨rfl, ⟨nd, rfl⟩⟩
          refine ⟨_, rfl, ?_⟩
          refine hK.out _ _ (((HB.out.cell (lc_ w _ hw327_0)).trans hw327_0)) (fun hHeld => ?_)
          clear hK K
          refine norm_ (a' := ?_) ?_ ?_
          rotate_left
          ·show Act.put _ (some 14) _ = _
           simp only [Act.put, la_, lz_, ls_, i64_w, i32_w]
           rfl
          exact norm_ (by first | (simp only [putAll, Act.put, la_, lz_, ls_]; done) | (simp only [putAll, Act.put, la_, lz_, ls_]; rfl)) (hJ5_6 (v330) _ ⟨hHeld, (Kd.ur_ HO331.out), (u_ BK326.out), (us_ HB.out)⟩)
         skip
         refine box_step ?hg (N := 4) ?hd (cs := #[.int .i64 0, .int .i64 0, .slice none 0 0]) (t := 68) ?hr ?_; (case hd => rfl); (case hg => rfl); (case hr => first | (go_simp; done) | (go_simp; rfl))
         intro gb336 hg w56 hbox hb
         have n0_ := mk_ (Kd.R_below (Kd.ur_ HO331.out) hb)
         have n1_ := mk_ (blk_below (u_ BK326.out) hb)
         have n2_ := mk_ (below_step (us_ HB.out) hb)
         have n3_ := mk_ (hbox)
         have n4_ := mk_ ((by rw [hg]; exact (below_size (us_ HB.out)) : w.heap.size ≤ gb336))
         have n5_ := mk_ ((by rw [hg]; exact (below_size (us_ HB.out)) : w.heap.size ≤ gb336))
         have n6_ := mk_ ((by rw [hg]; exact Nat.ne_of_lt (blk_lt (u_ BK326.out)) : gb326 ≠ gb336))
         have n7_ := mk_ ((by rw [hg]; exact Nat.ne_of_gt (blk_lt (u_ BK326.out)) : gb336 ≠ gb326))
         clear HO331
         clear BK326
         clear HB
         have HO331 := n0_
         have BK326 := n1_
         have HB := n2_
         have BK336 := n3_
         have GW336 := n4_
         have GE336 := ge_ n5_.out
         have NB326_336 := nq_ n6_.out
         have NB336_326 := nq_ n7_.out
         clear n0_ n1_ n2_ n3_ n4_ n5_ n6_ n7_
         clear hb hbox hg
         refine hK.out _ _ (((HB.out.cell (lc_ w _ hw327_0)).trans hw327_0)) (fun hHeld => ?_)
         clear hK K
         refine norm_ (a' := ?_) ?_ ?_
         rotate_left
         ·show Act.put _ (some 4) _ = _
          simp only [Act.put, la_, lz_, ls_, i64_w, i32_w]
          rfl
         exact norm_ (by first | (simp only [putAll, Act.put, la_, lz_, ls_]; done) | (simp only [putAll, Act.put, la_, lz_, ls_]; rfl)) (hJ6_11 (v330, gb336) _ ⟨hHeld, (Kd.ur_ HO331.out), (u_ BK326.out), (u_ BK336.out), GW336.out, GE336.out, NB326_336.out, NB336_326.out, (us_ HB.out)⟩)
        skip
        rintro _ w53 ⟨hS_, h0_, h1_⟩
        have n0_ : Aside0 (w53.heap[gb326]? = some (.cells #[.int .i64 0, .int .i64 0, .slice none 0 0] 68 (0, 0))) := ⟨h0_⟩
        have n1_ : Aside0 (Below w.heap.size w w53) := ⟨h1_⟩
        clear BK326
        clear HB
        clear h0_ h1_
        have BK326 := n0_
        have HB := n1_
        clear n0_ n1_
        have hHeld : w53.cell? ad327 = some (.int .u8 (rd l0 0)) := hS_
        refine norm_ (a' := ?_) ?_ ?_
        rotate_left
        ·simp only [putAll, Act.put, la_, lz_, ls_]
         rfl
        refine two_ (i := 6) (j := 11) (Ni := some 15) (Nj := some 4) #[T_, T_, T_, T_, T_, T_, T_, T_, T_, F_, F_, F_, F_] #[T_, T_, T_, T_, T_, T_, F_, T_, T_, F_, F_, T_, F_] rfl rfl rfl rfl (two_of HT_.out (by kernel_rfl)) (by decide) (by decide) (fun K hK => ?_) (fun K hK => ?_)
        ·skip
         refine Kd.R_lit_step (Kd.int .u8) _ 5 ?hg (N := 15) ?hd (xs := ([] : List Int)) (inner := []) (ok := fun _ => True) (okp := fun _ => True) ?hr ?hp (fun _ hk => hk) trivial (Below.refl _ _) (Nat.le_refl _) (by simp) ?_; (case hd => rfl); (case hg => rfl); (case hr => first | (go_simp; done) | (go_simp; rfl)); (case hp => exact (Reps.none _ _))
         intro v330 w54 ho55 hb hg_ hnew_
         clear hg_ hnew_
         (first | rw [← Ny329.out] at ho55 | (simp only [Int.reduceToNat] at ho55; rw [← Ny329.out] at ho55))
         have n0_ := mk_ (Kd.R_lower ho55 (below_size (us_ HB.out)))
         have n1_ := mk_ (blk_below (u_ BK326.out) hb)
         have n2_ := mk_ (below_step (us_ HB.out) hb)
         clear BK326
         clear HB
         have HO331 := n0_
         have BK326 := n1_
         have HB := n2_
         clear n0_ n1_ n2_
         clear hb ho55
         refine hK.out _ _ (((HB.out.cell (lc_ w _ hw327_0)).trans hw327_0)) (fun hHeld => ?_)
         clear hK K
         refine norm_ (a' := ?_) ?_ ?_
         rotate_left
         ·show Act.put _ (some 15) _ = _
          simp only [Act.put, la_, lz_, ls_, i64_w, i32_w]
          rfl
         exact norm_ (by first | (simp only [putAll, Act.put, la_, lz_, ls_]; done) | (simp only [putAll, Act.put, la_, lz_, ls_]; rfl)) (hJ5_6 (v330) _ ⟨hHeld, (Kd.ur_ HO331.out), (u_ BK326.out), (us_ HB.out)⟩)
        skip
        refine box_step ?hg (N := 4) ?hd (cs := #[.int .i64 0, .int .i64 0, .slice none 0 0]) (t := 68) ?hr ?_; (case hd => rfl); (case hg => rfl); (case hr => first | (go_simp; done) | (go_simp; rfl))
        intro gb336 hg w54 hbox hb
        have n0_ := mk_ (blk_below (u_ BK326.out) hb)
        have n1_ := mk_ (below_step (us_ HB.out) hb)
        have n2_ := mk_ (hbox)
        have n3_ := mk_ ((by rw [hg]; exact (below_size (us_ HB.out)) : w.heap.size ≤ gb336))
        have n4_ := mk_ ((by rw [hg]; exact (below_size (us_ HB.out)) : w.heap.size ≤ gb336))
        have n5_ := mk_ ((by rw [hg]; exact Nat.ne_of_lt (blk_lt (u_ BK326.out)) : gb326 ≠ gb336))
        have n6_ := mk_ ((by rw [hg]; exact Nat.ne_of_gt (blk_lt (u_ BK326.out)) : gb336 ≠ gb326))
        clear BK326
        clear HB
        have BK326 := n0_
        have HB := n1_
        have BK336 := n2_
        have GW336 := n3_
        have GE336 := ge_ n4_.out
        have NB326_336 := nq_ n5_.out
        have NB336_326 := nq_ n6_.out
        clear n0_ n1_ n2_ n3_ n4_ n5_ n6_
        clear hb hbox hg
        refine hK.out _ _ (((HB.out.cell (lc_ w _ hw327_0)).trans hw327_0)) (fun hHeld => ?_)
        clear hK K
        refine norm_ (a' := ?_) ?_ ?_
        rotate_left
        ·show Act.put _ (some 4) _ = _
         simp only [Act.put, la_, lz_, ls_, i64_w, i32_w]
         rfl
        exact norm_ (by first | (simp only [putAll, Act.put, la_, lz_, ls_]; done) | (simp only [putAll, Act.put, la_, lz_, ls_]; rfl)) (hJ5_11 (gb336) _ ⟨hHeld, (u_ BK326.out), (u_ BK336.out), GW336.out, GE336.out, NB326_336.out, NB336_326.out, (us_ HB.out)⟩)
       skip
       rintro ⟨v330, gb336⟩ w56 ⟨hS_, h0_, h1_, h2_, h3_, h4_, h5_, h6_, h7_⟩
       have n0_ : Aside0 (Kd.R (Kd.int .u8) 5 w56 w.heap.size (fun _ => True) v330 y329) := ⟨h0_⟩
       have n1_ : Aside0 (w56.heap[gb326]? = some (.cells #[.int .i64 0, .int .i64 0, .slice none 0 0] 68 (0, 0))) := ⟨h1_⟩
       have n2_ : Aside0 (w56.heap[gb336]? = some (.cells #[.int .i64 0, .int .i64 0, .slice none 0 0] 68 (0, 0))) := ⟨h2_⟩
       have n3_ : Aside0 (w.heap.size ≤ gb336) := ⟨h3_⟩
       have n4_ : Aside0 (w.heap.size ≤ gb336) := ⟨h4_⟩
       have n5_ : Aside0 (gb326 ≠ gb336) := ⟨h5_⟩
       have n6_ : Aside0 (gb336 ≠ gb326) := ⟨h6_⟩
       have n7_ : Aside0 (Below w.heap.size w w56) := ⟨h7_⟩
       clear BK326
       clear HB
       clear h0_ h1_ h2_ h3_ h4_ h5_ h6_ h7_
       have HO331 := n0_
       have BK326 := n1_
       have BK336 := n2_
       have GW336 := n3_
       have GE336 := ge_ n4_.out
       have NB326_336 := nq_ n5_.out
       have NB336_326 := nq_ n6_.out
       have HB := n7_
       clear n0_ n1_ n2_ n3_ n4_ n5_ n6_ n7_
       have hHeld : w56.cell? ad327 = some (.int .u8 (rd l0 0)) := hS_
       refine norm_ (a' := ?_) ?_ ?_
       rotate_left
       ·simp only [putAll, Act.put, la_, lz_, ls_]
        rfl
       refine one_ (i := 5) (N := some 14) #[T_, T_, T_, T_, T_, T_, T_, T_, T_, F_, F_, T_, F_] rfl rfl (one_of HT_.out (by kernel_rfl)) (by decide) (fun K hK => ?_)
       refine goes_ Try.func81 (by kernel_rfl) rfl #[.slice (some ad327) l0.length c0, .int .i64 1, .int .i64 2] (by rfl) rfl rfl (by (try simp only [lm_, lo_, ln_]); first | done | rfl | (simp only [List.length_drop, List.length_take]; rfl)) ?_
       with_reducible refine (spec_NumberAt.calls k _ _ l0 1 2 t328 _ ?side1 ?side2 A6.out).mono ?_
       (case side1 => repeat (first | exact (Kd.C_below HR0.out HB.out) | (with_reducible refine Kd.C_alloc ?_ _) | (with_reducible refine Kd.C_drewN ?_ _) | (with_reducible refine Kd.C_drew ?_)))
       (case side2 => exact HC0.out)
       rintro e w' ⟨rfl, ⟨nd, rfl⟩⟩
       refine ⟨_, rfl, ?_⟩
       refine hK.out _ _ (((HB.out.cell (lc_ w _ hw327_0)).trans hw327_0)) (fun hHeld => ?_)
       clear hK K
       refine norm_ (a' := ?_) ?_ ?_
       rotate_left
       ·show Act.put _ (some 14) _ = _
        simp only [Act.put, la_, lz_, ls_, i64_w, i32_w]
        rfl
       exact norm_ (by first | (simp only [putAll, Act.put, la_, lz_, ls_]; done) | (simp only [putAll, Act.put, la_, lz_, ls_]; rfl)) (hJ5_6_11 (v330, gb336) _ ⟨hHeld, (Kd.ur_ HO331.out), (u_ BK326.out), (u_ BK336.out), GW336.out, GE336.out, NB326_336.out, NB336_326.out, (us_ HB.out)⟩)
      skip
      rintro gb336 w54 ⟨hS_, h0_, h1_, h2_, h3_, h4_, h5_, h6_⟩
      have n0_ : Aside0 (w54.heap[gb326]? = some (.cells #[.int .i64 0, .int .i64 0, .slice none 0 0] 68 (0, 0))) := ⟨h0_⟩
      have n1_ : Aside0 (w54.heap[gb336]? = some (.cells #[.int .i64 0, .int .i64 0, .slice none 0 0] 68 (0, 0))) := ⟨h1_⟩
      have n2_ : Aside0 (w.heap.size ≤ gb336) := ⟨h2_⟩
      have n3_ : Aside0 (w.heap.size ≤ gb336) := ⟨h3_⟩
      have n4_ : Aside0 (gb326 ≠ gb336) := ⟨h4_⟩
      have n5_ : Aside0 (gb336 ≠ gb326) := ⟨h5_⟩
      have n6_ : Aside0 (Below w.heap.size w w54) := ⟨h6_⟩
      clear BK326
      clear HB
      clear h0_ h1_ h2_ h3_ h4_ h5_ h6_
      have BK326 := n0_
      have BK336 := n1_
      have GW336 := n2_
      have GE336 := ge_ n3_.out
      have NB326_336 := nq_ n4_.out
      have NB336_326 := nq_ n5_.out
      have HB := n6_
      clear n0_ n1_ n2_ n3_ n4_ n5_ n6_
      have hHeld : w54.cell? ad327 = some (.int .u8 (rd l0 0)) := hS_
      refine norm_ (a' := ?_) ?_ ?_
      rotate_left
      ·simp only [putAll, Act.put, la_, lz_, ls_]
       rfl
      refine one_ (i := 6) (N := some 15) #[T_, T_, T_, T_, T_, T_, T_, T_, T_, F_, F_, T_, F_] rfl rfl (one_of HT_.out (by kernel_rfl)) (by decide) (fun K hK => ?_)
      refine Kd.R_lit_step (Kd.int .u8) _ 5 ?hg (N := 15) ?hd (xs := ([] : List Int)) (inner := []) (ok := fun _ => True) (okp := fun _ => True) ?hr ?hp (fun _ hk => hk) trivial (Below.refl _ _) (Nat.le_refl _) (by simp) ?_; (case hd => rfl); (case hg => rfl); (case hr => first | (go_simp; done) | (go_simp; rfl)); (case hp => exact (Reps.none _ _))
      intro v330 w55 ho56 hb hg_ hnew_
      clear hg_ hnew_
      (first | rw [← Ny329.out] at ho56 | (simp only [Int.reduceToNat] at ho56; rw [← Ny329.out] at ho56))
      have n0_ := mk_ (Kd.R_lower ho56 (below_size (us_ HB.out)))
      have n1_ := mk_ (blk_below (u_ BK326.out) hb)
      have n2_ := mk_ (blk_below (u_ BK336.out) hb)
      have n3_ := mk_ (below_step (us_ HB.out) hb)
      clear BK326
      clear BK336
      clear HB
      have HO331 := n0_
      have BK326 := n1_
      have BK336 := n2_
      have HB := n3_
      clear n0_ n1_ n2_ n3_
      clear hb ho56
      refine hK.out _ _ (((HB.out.cell (lc_ w _ hw327_0)).trans hw327_0)) (fun hHeld => ?_)
      clear hK K
      refine norm_ (a' := ?_) ?_ ?_
      rotate_left
      ·show Act.put _ (some 15) _ = _
       simp only [Act.put, la_, lz_, ls_, i64_w, i32_w]
       rfl
      exact norm_ (by first | (simp only [putAll, Act.put, la_, lz_, ls_]; done) | (simp only [putAll, Act.put, la_, lz_, ls_]; rfl)) (hJ5_6_11 (v330, gb336) _ ⟨hHeld, (Kd.ur_ HO331.out), (u_ BK326.out), (u_ BK336.out), GW336.out, GE336.out, NB326_336.out, NB336_326.out, (us_ HB.out)⟩)
     skip
     rintro v330 w55 ⟨hS_, h0_, h1_, h2_⟩
     have n0_ : Aside0 (Kd.R (Kd.int .u8) 5 w55 w.heap.size (fun _ => True) v330 y329) := ⟨h0_⟩
     have n1_ : Aside0 (w55.heap[gb326]? = some (.cells #[.int .i64 0, .int .i64 0, .slice none 0 0] 68 (0, 0))) := ⟨h1_⟩
     have n2_ : Aside0 (Below w.heap.size w w55) := ⟨h2_⟩
     clear BK326
     clear HB
     clear h0_ h1_ h2_
     have HO331 := n0_
     have BK326 := n1_
     have HB := n2_
     clear n0_ n1_ n2_
     have hHeld : w55.cell? ad327 = some (.int .u8 (rd l0 0)) := hS_
     refine norm_ (a' := ?_) ?_ ?_
     rotate_left
     ·simp only [putAll, Act.put, la_, lz_, ls_]
      rfl
     refine two_ (i := 9) (j := 11) (Ni := some 18) (Nj := some 4) #[T_, T_, T_, T_, T_, T_, T_, T_, T_, T_, F_, F_, F_] #[T_, T_, T_, T_, T_, T_, T_, T_, T_, F_, F_, T_, F_] rfl rfl rfl rfl (two_of HT_.out (by kernel_rfl)) (by decide) (by decide) (fun K hK => ?_) (fun K hK => ?_)
     ·skip
      refine Kd.R_append_rows_step (Kd.int .u8) (w0 := w) w.heap.size (by rfl) (.tmp 15) (.tmp 17) 22 5 (.int .u8 0) 1 rfl Try.underlying22 info5 rfl (by decide) (by omega) v330 y329 (l0.drop 4) _ _ _ (fun _ => True) (fun _ => False) rfl rfl ?aO ?aR (fun _ _ h => h) (fun _ h => h.elim) ?aF ?aB ?aS ?aL ?_
      (case aR => first | (have e_ := (Kd.C_below HR332.out HB.out); rw [show (l0.drop 4).length = (l0.length - 4) from List.length_drop] at e_; exact e_) | (rw [← show (l0.drop 4).length = (l0.length - 4) from List.length_drop]; repeat (first | exact (Kd.C_below HR332.out HB.out) | (with_reducible refine Kd.C_alloc ?_ _) | (with_reducible refine Kd.C_drewN ?_ _) | (with_reducible refine Kd.C_drew ?_))) | (repeat (first | exact (Kd.C_below HR332.out HB.out) | (with_reducible refine Kd.C_alloc ?_ _) | (with_reducible refine Kd.C_drewN ?_ _) | (with_reducible refine Kd.C_drew ?_))))
      (case aB => exact (us_ HB.out))
      (case aF => exact (fun _ _ => trivial))
      (case aO => exact (Kd.ur_ HO331.out))
      (case aS => exact (below_size (us_ HB.out)))
      (case aL => have := LMc8.out; have hlx_ := (show (l0.drop 4).length = (l0.length - 4) from List.length_drop); omega)
      intro v334 w56 ho hb hg hat
      rw [← Ny333.out] at ho
      have n0_ := mk_ (blk_grown (g := gb326) (o := .cells #[.int .i64 0, .int .i64 0, .slice none 0 0] 68 (0, 0)) (u_ BK326.out) hg (Kd.R_ne HO331.out BK326.out (by decide)))
      have n1_ := mk_ (hb)
      have n2_ := mk_ (ho)
      clear BK326
      clear HB
      clear HO331
      have BK326 := n0_
      have HB := n1_
      have HO335 := n2_
      clear n0_ n1_ n2_
      clear ho hb hg hat
      obtain ⟨Ao57, co57, eo57⟩ := Kd.R_slice HO335.out
      (first | subst eo57 | (injection eo57 with f1_ f2_ f3_; have f4_ := f1_.symm; have f5_ := f3_.symm; clear f1_ f2_ f3_; subst f4_; subst f5_))
      refine hK.out _ _ (((HB.out.cell (lc_ w _ hw327_0)).trans hw327_0)) (fun hHeld => ?_)
      clear hK K
      refine norm_ (a' := ?_) ?_ ?_
      rotate_left
      ·show Act.put _ (some 18) _ = _
       simp only [Act.put, la_, lz_, ls_, i64_w, i32_w]
       rfl
      refine pure_ (i := 10) (N := some 19) (v := ?_) (a' := ?_) #[T_, T_, T_, T_, T_, T_, T_, T_, T_, T_, T_, F_, F_] rfl rfl (any_of HT_.out (by kernel_rfl)) (fun _ _ _ h => h) (Or.inl ⟨by rfl, ?_⟩) ?_ ?_
      rotate_left
      ·intro w'
       go_simp
       with_reducible rfl
      rotate_left
      ·simp only [Act.put, la_, lz_, ls_, i64_w, i32_w]
       rfl
      exact norm_ (by first | (simp only [putAll, Act.put, la_, lz_, ls_]; done) | (simp only [putAll, Act.put, la_, lz_, ls_]; rfl)) (hJ5_6_9 (v330, .slice Ao57 y333.length co57) _ ⟨hHeld, (Kd.ur_ HO335.out), (u_ BK326.out), (us_ HB.out)⟩)
     skip
     refine box_step ?hg (N := 4) ?hd (cs := #[.int .i64 0, .int .i64 0, .slice none 0 0]) (t := 68) ?hr ?_; (case hd => rfl); (case hg => rfl); (case hr => first | (go_simp; done) | (go_simp; rfl))
     intro gb336 hg w56 hbox hb
     have n0_ := mk_ (Kd.R_below (Kd.ur_ HO331.out) hb)
     have n1_ := mk_ (blk_below (u_ BK326.out) hb)
     have n2_ := mk_ (below_step (us_ HB.out) hb)
     have n3_ := mk_ (hbox)
     have n4_ := mk_ ((by rw [hg]; exact (below_size (us_ HB.out)) : w.heap.size ≤ gb336))
     have n5_ := mk_ ((by rw [hg]; exact (below_size (us_ HB.out)) : w.heap.size ≤ gb336))
     have n6_ := mk_ ((by rw [hg]; exact Nat.ne_of_lt (blk_lt (u_ BK326.out)) : gb326 ≠ gb336))
     have n7_ := mk_ ((by rw [hg]; exact Nat.ne_of_gt (blk_lt (u_ BK326.out)) : gb336 ≠ gb326))
     clear HO331
     clear BK326
     clear HB
     have HO331 := n0_
     have BK326 := n1_
     have HB := n2_
     have BK336 := n3_
     have GW336 := n4_
     have GE336 := ge_ n5_.out
     have NB326_336 := nq_ n6_.out
     have NB336_326 := nq_ n7_.out
     clear n0_ n1_ n2_ n3_ n4_ n5_ n6_ n7_
     clear hb hbox hg
     refine hK.out _ _ (((HB.out.cell (lc_ w _ hw327_0)).trans hw327_0)) (fun hHeld => ?_)
     clear hK K
     refine norm_ (a' := ?_) ?_ ?_
     rotate_left
     ·show Act.put _ (some 4) _ = _
      simp only [Act.put, la_, lz_, ls_, i64_w, i32_w]
      rfl
     exact norm_ (by first | (simp only [putAll, Act.put, la_, lz_, ls_]; done) | (simp only [putAll, Act.put, la_, lz_, ls_]; rfl)) (hJ5_6_11 (v330, gb336) _ ⟨hHeld, (Kd.ur_ HO331.out), (u_ BK326.out), (u_ BK336.out), GW336.out, GE336.out, NB326_336.out, NB336_326.out, (us_ HB.out)⟩)
    skip
    rintro ⟨v330, gb336⟩ w56 ⟨hS_, h0_, h1_, h2_, h3_, h4_, h5_, h6_, h7_⟩
    have n0_ : Aside0 (Kd.R (Kd.int .u8) 5 w56 w.heap.size (fun _ => True) v330 y329) := ⟨h0_⟩
    have n1_ : Aside0 (w56.heap[gb326]? = some (.cells #[.int .i64 0, .int .i64 0, .slice none 0 0] 68 (0, 0))) := ⟨h1_⟩
    have n2_ : Aside0 (w56.heap[gb336]? = some (.cells #[.int .i64 0, .int .i64 0, .slice none 0 0] 68 (0, 0))) := ⟨h2_⟩
    have n3_ : Aside0 (w.heap.size ≤ gb336) := ⟨h3_⟩
    have n4_ : Aside0 (w.heap.size ≤ gb336) := ⟨h4_⟩
    have n5_ : Aside0 (gb326 ≠ gb336) := ⟨h5_⟩
    have n6_ : Aside0 (gb336 ≠ gb326) := ⟨h6_⟩
    have n7_ : Aside0 (Below w.heap.size w w56) := ⟨h7_⟩
    clear BK326
    clear HB
    clear h0_ h1_ h2_ h3_ h4_ h5_ h6_ h7_
    have HO331 := n0_
    have BK326 := n1_
    have BK336 := n2_
    have GW336 := n3_
    have GE336 := ge_ n4_.out
    have NB326_336 := nq_ n5_.out
    have NB336_326 := nq_ n6_.out
    have HB := n7_
    clear n0_ n1_ n2_ n3_ n4_ n5_ n6_ n7_
    have hHeld : w56.cell? ad327 = some (.int .u8 (rd l0 0)) := hS_
    refine norm_ (a' := ?_) ?_ ?_
    rotate_left
    ·simp only [putAll, Act.put, la_, lz_, ls_]
     rfl
    refine one_ (i := 9) (N := some 18) #[T_, T_, T_, T_, T_, T_, T_, T_, T_, T_, F_, T_, F_] rfl rfl (one_of HT_.out (by kernel_rfl)) (by decide) (fun K hK => ?_)
    refine Kd.R_append_rows_step (Kd.int .u8) (w0 := w) w.heap.size (by rfl) (.tmp 15) (.tmp 17) 22 5 (.int .u8 0) 1 rfl Try.underlying22 info5 rfl (by decide) (by omega) v330 y329 (l0.drop 4) _ _ _ (fun _ => True) (fun _ => False) rfl rfl ?aO ?aR (fun _ _ h => h) (fun _ h => h.elim) ?aF ?aB ?aS ?aL ?_
    (case aR => first | (have e_ := (Kd.C_below HR332.out HB.out); rw [show (l0.drop 4).length = (l0.length - 4) from List.length_drop] at e_; exact e_) | (rw [← show (l0.drop 4).length = (l0.length - 4) from List.length_drop]; repeat (first | exact (Kd.C_below HR332.out HB.out) | (with_reducible refine Kd.C_alloc ?_ _) | (with_reducible refine Kd.C_drewN ?_ _) | (with_reducible refine Kd.C_drew ?_))) | (repeat (first | exact (Kd.C_below HR332.out HB.out) | (with_reducible refine Kd.C_alloc ?_ _) | (with_reducible refine Kd.C_drewN ?_ _) | (with_reducible refine Kd.C_drew ?_))))
    (case aB => exact (us_ HB.out))
    (case aF => exact (fun _ _ => trivial))
    (case aO => exact (Kd.ur_ HO331.out))
    (case aS => exact (below_size (us_ HB.out)))
    (case aL => have := LMc8.out; have hlx_ := (show (l0.drop 4).length = (l0.length - 4) from List.length_drop); omega)
    intro v334 w57 ho hb hg hat
    rw [← Ny333.out] at ho
    have n0_ := mk_ (blk_grown (g := gb326) (o := .cells #[.int .i64 0, .int .i64 0, .slice none 0 0] 68 (0, 0)) (u_ BK326.out) hg (Kd.R_ne HO331.out BK326.out (by decide)))
    have n1_ := mk_ (blk_grown (g := gb336) (o := .cells #[.int .i64 0, .int .i64 0, .slice none 0 0] 68 (0, 0)) (u_ BK336.out) hg (Kd.R_ne HO331.out BK336.out (by decide)))
    have n2_ := mk_ (hb)
    have n3_ := mk_ (ho)
    clear BK326
    clear BK336
    clear HB
    clear HO331
    have BK326 := n0_
    have BK336 := n1_
    have HB := n2_
    have HO335 := n3_
    clear n0_ n1_ n2_ n3_
    clear ho hb hg hat
    obtain ⟨Ao58, co58, eo58⟩ := Kd.R_slice HO335.out
    (first | subst eo58 | (injection eo58 with f1_ f2_ f3_; have f4_ := f1_.symm; have f5_ := f3_.symm; clear f1_ f2_ f3_; subst f4_; subst f5_))
    refine hK.out _ _ (((HB.out.cell (lc_ w _ hw327_0)).trans hw327_0)) (fun hHeld => ?_)
    clear hK K
    refine norm_ (a' := ?_) ?_ ?_
    rotate_left
    ·show Act.put _ (some 18) _ = _
     simp only [Act.put, la_, lz_, ls_, i64_w, i32_w]
     rfl
    refine pure_ (i := 10) (N := some 19) (v := ?_) (a' := ?_) #[T_, T_, T_, T_, T_, T_, T_, T_, T_, T_, T_, T_, F_] rfl rfl (any_of HT_.out (by kernel_rfl)) (fun _ _ _ h => h) (Or.inl ⟨by rfl, ?_⟩) ?_ ?_
    rotate_left
    ·intro w'
     go_simp
     with_reducible rfl
    rotate_left
    ·simp only [Act.put, la_, lz_, ls_, i64_w, i32_w]
     rfl
    exact norm_ (by first | (simp only [putAll, Act.put, la_, lz_, ls_]; done) | (simp only [putAll, Act.put, la_, lz_, ls_]; rfl)) (hJ5_6_9_11 (v330, .slice Ao58 y333.length co58, gb336) _ ⟨hHeld, (Kd.ur_ HO335.out), (u_ BK326.out), (u_ BK336.out), GW336.out, GE336.out, NB326_336.out, NB336_326.out, (us_ HB.out)⟩)
   skip
   rintro ⟨v330, v334⟩ w57 ⟨hS_, h0_, h1_, h2_⟩
   have n0_ : Aside0 (Kd.R (Kd.int .u8) 5 w57 w.heap.size (fun _ => True) v334 y333) := ⟨h0_⟩
   have n1_ : Aside0 (w57.heap[gb326]? = some (.cells #[.int .i64 0, .int .i64 0, .slice none 0 0] 68 (0, 0))) := ⟨h1_⟩
   have n2_ : Aside0 (Below w.heap.size w w57) := ⟨h2_⟩
   clear BK326
   clear HB
   clear h0_ h1_ h2_
   have HO335 := n0_
   have BK326 := n1_
   have HB := n2_
   clear n0_ n1_ n2_
   have hHeld : w57.cell? ad327 = some (.int .u8 (rd l0 0)) := hS_
   obtain ⟨Ao58, co58, eo58⟩ := Kd.R_slice HO335.out
   (first | subst eo58 | (injection eo58 with f1_ f2_ f3_; have f4_ := f1_.symm; have f5_ := f3_.symm; clear f1_ f2_ f3_; subst f4_; subst f5_))
   refine norm_ (a' := ?_) ?_ ?_
   rotate_left
   ·simp only [putAll, Act.put, la_, lz_, ls_]
    rfl
   refine one_ (i := 11) (N := some 4) #[T_, T_, T_, T_, T_, T_, T_, T_, T_, T_, T_, T_, F_] rfl rfl (one_of HT_.out (by kernel_rfl)) (by decide) (fun K hK => ?_)
   refine box_step ?hg (N := 4) ?hd (cs := #[.int .i64 0, .int .i64 0, .slice none 0 0]) (t := 68) ?hr ?_; (case hd => rfl); (case hg => rfl); (case hr => first | (go_simp; done) | (go_simp; rfl))
   intro gb336 hg w59 hbox hb
   have n0_ := mk_ (Kd.R_below (Kd.ur_ HO335.out) hb)
   have n1_ := mk_ (blk_below (u_ BK326.out) hb)
   have n2_ := mk_ (below_step (us_ HB.out) hb)
   have n3_ := mk_ (hbox)
   have n4_ := mk_ ((by rw [hg]; exact (below_size (us_ HB.out)) : w.heap.size ≤ gb336))
   have n5_ := mk_ ((by rw [hg]; exact (below_size (us_ HB.out)) : w.heap.size ≤ gb336))
   have n6_ := mk_ ((by rw [hg]; exact Nat.ne_of_lt (blk_lt (u_ BK326.out)) : gb326 ≠ gb336))
   have n7_ := mk_ ((by rw [hg]; exact Nat.ne_of_gt (blk_lt (u_ BK326.out)) : gb336 ≠ gb326))
   clear HO335
   clear BK326
   clear HB
   have HO335 := n0_
   have BK326 := n1_
   have HB := n2_
   have BK336 := n3_
   have GW336 := n4_
   have GE336 := ge_ n5_.out
   have NB326_336 := nq_ n6_.out
   have NB336_326 := nq_ n7_.out
   clear n0_ n1_ n2_ n3_ n4_ n5_ n6_ n7_
   clear hb hbox hg
   refine hK.out _ _ (((HB.out.cell (lc_ w _ hw327_0)).trans hw327_0)) (fun hHeld => ?_)
   clear hK K
   refine norm_ (a' := ?_) ?_ ?_
   rotate_left
   ·show Act.put _ (some 4) _ = _
    simp only [Act.put, la_, lz_, ls_, i64_w, i32_w]
    rfl
   exact norm_ (by first | (simp only [putAll, Act.put, la_, lz_, ls_]; done) | (simp only [putAll, Act.put, la_, lz_, ls_]; rfl)) (hJ5_6_9_11 (v330, .slice Ao58 y333.length co58, gb336) _ ⟨hHeld, (Kd.ur_ HO335.out), (u_ BK326.out), (u_ BK336.out), GW336.out, GE336.out, NB326_336.out, NB336_326.out, (us_ HB.out)⟩)
  rintro ⟨v330, v334, gb336⟩ w58 ⟨hS_, h0_, h1_, h2_, h3_, h4_, h5_, h6_, h7_⟩
  have n0_ : Aside0 (Kd.R (Kd.int .u8) 5 w58 w.heap.size (fun _ => True) v334 y333) := ⟨h0_⟩
  have n1_ : Aside0 (w58.heap[gb326]? = some (.cells #[.int .i64 0, .int .i64 0, .slice none 0 0] 68 (0, 0))) := ⟨h1_⟩
  have n2_ : Aside0 (w58.heap[gb336]? = some (.cells #[.int .i64 0, .int .i64 0, .slice none 0 0] 68 (0, 0))) := ⟨h2_⟩
  have n3_ : Aside0 (w.heap.size ≤ gb336) := ⟨h3_⟩
  have n4_ : Aside0 (w.heap.size ≤ gb336) := ⟨h4_⟩
  have n5_ : Aside0 (gb326 ≠ gb336) := ⟨h5_⟩
  have n6_ : Aside0 (gb336 ≠ gb326) := ⟨h6_⟩
  have n7_ : Aside0 (Below w.heap.size w w58) := ⟨h7_⟩
  clear BK326
  clear HB
  clear h0_ h1_ h2_ h3_ h4_ h5_ h6_ h7_
  have HO335 := n0_
  have BK326 := n1_
  have BK336 := n2_
  have GW336 := n3_
  have GE336 := ge_ n4_.out
  have NB326_336 := nq_ n5_.out
  have NB336_326 := nq_ n6_.out
  have HB := n7_
  clear n0_ n1_ n2_ n3_ n4_ n5_ n6_ n7_
  have hHeld : w58.cell? ad327 = some (.int .u8 (rd l0 0)) := hS_
  obtain ⟨Ao59, co59, eo59⟩ := Kd.R_slice HO335.out
  (first | subst eo59 | (injection eo59 with f1_ f2_ f3_; have f4_ := f1_.symm; have f5_ := f3_.symm; clear f1_ f2_ f3_; subst f4_; subst f5_))
  refine norm_ (a' := ?_) ?_ ?_
  rotate_left
  ·simp only [putAll, Act.put, la_, lz_, ls_]
   rfl
  refine one_ (i := 12) (N := none) #[T_, T_, T_, T_, T_, T_, T_, T_, T_, T_, T_, T_, T_] rfl rfl (one_of HT_.out (by kernel_rfl)) (by decide) (fun K hK => ?_)
  have hs60 : w58.cell? ⟨gb336, 0, none⟩ = some (.int .i64 0) := (blk_cell BK336.out 0).trans rfl
  have hfs60 := blk_frozen BK336.out 0
  have hns60_0 := NB326_336.out
  have hms60_0 := NB336_326.out
  have hs61 : w58.cell? ⟨gb336, 1, none⟩ = some (.int .i64 0) := (blk_cell BK336.out 1).trans rfl
  have hfs61 := blk_frozen BK336.out 1
  have hns61_0 := NB326_336.out
  have hms61_0 := NB336_326.out
  have hs62 : w58.cell? ⟨gb336, 2, none⟩ = some (.slice none 0 0) := (blk_cell BK336.out 2).trans rfl
  have hfs62 := blk_frozen BK336.out 2
  have hns62_0 := NB326_336.out
  have hms62_0 := NB336_326.out
  refine skip_ (w1 := ?_) (by rfl) rfl ?_ ?_
  rotate_left
  ·go_simp
   rfl
  refine hK.out _ _ (((cell_far (p := ⟨gb336, _, none⟩) (by first | exact (ne1_ (by have := lc_ _ _ hw327_0; first | rwa [add_block] at this | exact this) GW336.out) | (rw [add_block]; exact (ne1_ (by have := lc_ _ _ hw327_0; first | rwa [add_block] at this | exact this) GW336.out)) | (show (Addr.add _ _).block ≠ _; rw [add_block]; exact (ne1_ (by have := lc_ _ _ hw327_0; first | rwa [add_block] at this | exact this) GW336.out)) | (dsimp only; exact (ne1_ (by have := lc_ _ _ hw327_0; first | rwa [add_block] at this | exact this) GW336.out))) _).trans (((cell_far (p := ⟨gb336, _, none⟩) (by first | exact (ne1_ (by have := lc_ _ _ hw327_0; first | rwa [add_block] at this | exact this) GW336.out) | (rw [add_block]; exact (ne1_ (by have := lc_ _ _ hw327_0; first | rwa [add_block] at this | exact this) GW336.out)) | (show (Addr.add _ _).block ≠ _; rw [add_block]; exact (ne1_ (by have := lc_ _ _ hw327_0; first | rwa [add_block] at this | exact this) GW336.out)) | (dsimp only; exact (ne1_ (by have := lc_ _ _ hw327_0; first | rwa [add_block] at this | exact this) GW336.out))) _).trans (((cell_far (p := ⟨gb336, _, none⟩) (by first | exact (ne1_ (by have := lc_ _ _ hw327_0; first | rwa [add_block] at this | exact this) GW336.out) | (rw [add_block]; exact (ne1_ (by have := lc_ _ _ hw327_0; first | rwa [add_block] at this | exact this) GW336.out)) | (show (Addr.add _ _).block ≠ _; rw [add_block]; exact (ne1_ (by have := lc_ _ _ hw327_0; first | rwa [add_block] at this | exact this) GW336.out)) | (dsimp only; exact (ne1_ (by have := lc_ _ _ hw327_0; first | rwa [add_block] at this | exact this) GW336.out))) _).trans (hHeld))))))) (fun hHeld => ?_)
  clear hK K
  refine done_ (done_of HT_.out (by kernel_rfl)) ?_
  try go_wp2
  have n0_ : Aside0 (Kd.R (Kd.int .u8) 5 (((w58.setCell ⟨gb336, 0, none⟩ (.int .i64 (wrap64 (rd l0 0)))).setCell ⟨gb336, 1, none⟩ (.int .i64 t328)).setCell ⟨gb336, 2, none⟩ (.slice Ao59 y333.length co59)) w.heap.size (fun _ => True) (.slice Ao59 y333.length co59) y333) := ⟨by (with_reducible repeat (first | apply Kd.R_alloc | apply Kd.R_drewN | apply Kd.R_drew)); exact Kd.R_mono (Kd.R_far (p := ⟨gb336, 2, none⟩) (Kd.R_far (p := ⟨gb336, 1, none⟩) (Kd.R_far (p := ⟨gb336, 0, none⟩) (Kd.R_types HO335.out BK336.out (by decide)) (fun _ hk => hk.2) (.int .i64 (wrap64 (rd l0 0)))) (fun _ hk => hk.2) (.int .i64 t328)) (fun _ hk => hk.2) (.slice Ao59 y333.length co59)) (fun _ hk => trivial)⟩
  have n1_ : Aside0 ((((w58.setCell ⟨gb336, 0, none⟩ (.int .i64 (wrap64 (rd l0 0)))).setCell ⟨gb336, 1, none⟩ (.int .i64 t328)).setCell ⟨gb336, 2, none⟩ (.slice Ao59 y333.length co59)).heap[gb326]? = some (.cells #[.int .i64 0, .int .i64 0, .slice none 0 0] 68 (0, 0))) := ⟨uf_ BK326.out⟩
  have n2_ : Aside0 ((((w58.setCell ⟨gb336, 0, none⟩ (.int .i64 (wrap64 (rd l0 0)))).setCell ⟨gb336, 1, none⟩ (.int .i64 t328)).setCell ⟨gb336, 2, none⟩ (.slice Ao59 y333.length co59)).heap[gb336]? = some (.cells #[.int .i64 (wrap64 (rd l0 0)), .int .i64 t328, .slice Ao59 y333.length co59] 68 (0, 0))) := ⟨by (with_reducible repeat (first | refine bn_ ?_ _ | refine bw_ ?_ | refine ba_ ?_ _)); refine blk_put (cs := #[.int .i64 (wrap64 (rd l0 0)), .int .i64 t328, .slice none 0 0]) ?_ 2 _ rfl; (with_reducible repeat (first | refine bn_ ?_ _ | refine bw_ ?_ | refine ba_ ?_ _)); refine blk_put (cs := #[.int .i64 (wrap64 (rd l0 0)), .int .i64 0, .slice none 0 0]) ?_ 1 _ rfl; (with_reducible repeat (first | refine bn_ ?_ _ | refine bw_ ?_ | refine ba_ ?_ _)); refine blk_put (cs := #[.int .i64 0, .int .i64 0, .slice none 0 0]) ?_ 0 _ rfl; (with_reducible repeat (first | refine bn_ ?_ _ | refine bw_ ?_ | refine ba_ ?_ _)); exact BK336.out⟩
  have n3_ : Aside0 (Below w.heap.size w (((w58.setCell ⟨gb336, 0, none⟩ (.int .i64 (wrap64 (rd l0 0)))).setCell ⟨gb336, 1, none⟩ (.int .i64 t328)).setCell ⟨gb336, 2, none⟩ (.slice Ao59 y333.length co59))) := ⟨us_ HB.out⟩
  (try clear HO335)
  (try clear BK326)
  (try clear BK336)
  (try clear HB)
  generalize (((w58.setCell ⟨gb336, 0, none⟩ (.int .i64 (wrap64 (rd l0 0)))).setCell ⟨gb336, 1, none⟩ (.int .i64 t328)).setCell ⟨gb336, 2, none⟩ (.slice Ao59 y333.length co59)) = w63 at n0_ n1_ n2_ n3_ ⊢
  have HO335 := n0_
  have BK326 := n1_
  have BK336 := n2_
  have HB := n3_
  clear n0_ n1_ n2_ n3_
  have n0_ := mk_ (Kd.R_drew HO335.out)
  have n1_ := mk_ (blk_drew BK326.out)
  have n2_ := mk_ (blk_drew BK336.out)
  have n3_ := mk_ (below_drew1 HB.out)
  clear HO335
  clear BK326
  clear BK336
  clear HB
  have HO335 := n0_
  have BK326 := n1_
  have BK336 := n2_
  have HB := n3_
  clear n0_ n1_ n2_ n3_
  refine start_ (n := 13) (S := fun w' => w'.cell? ⟨gb336, 0, none⟩ = some (.int .i64 (wrap64 (rd l0 0))) ∧ w'.cell? ⟨gb336, 1, none⟩ = some (.int .i64 t328) ∧ w'.cell? ⟨gb336, 2, none⟩ = some (.slice Ao59 y333.length co59)) (ds := []) #[F_, F_, F_, F_, F_, F_, F_, F_, F_, F_, F_, F_, F_] (by kernel_rfl) rfl rfl ⟨(blk_cell BK336.out 0).trans rfl, (blk_cell BK336.out 1).trans rfl, (blk_cell BK336.out 2).trans rfl⟩ (fun hHeld => ?_); refine with_tabW spec_NoteFrom.tab4 spec_NoteFrom.bits4 (fun HT_ HW_ => ?_)
  generalize w63.drew = w64 at HO335 BK326 BK336 HB hHeld ⊢
  refine take_ (i := 0) (N := some 20) (v := ?_) (a' := ?_) #[T_, F_, F_, F_, F_, F_, F_, F_, F_, F_, F_, F_, F_] rfl rfl (take_ofW HT_.out HW_.out (by kernel_rfl)) (fun _ _ _ h => h) (Or.inl ⟨by rfl, ?_⟩) hHeld ?_ ?_
  rotate_left
  ·rintro w' ⟨s0, s1, s2⟩
   go_simp
   with_reducible rfl
  rotate_left
  ·simp only [Act.put, la_, lz_, ls_, i64_w, i32_w]
   rfl
  refine one_ (i := 1) (N := some 21) #[T_, T_, F_, F_, F_, F_, F_, F_, F_, F_, F_, F_, F_] rfl rfl (one_of HT_.out (by kernel_rfl)) (by decide) (fun K hK => ?_)
  refine goes_ Try.func82 (by kernel_rfl) rfl #[.agg #[.int .i64 (wrap64 (rd l0 0)), .int .i64 t328, .slice Ao59 y333.length co59]] (by rfl) rfl rfl (by (try simp only [lm_, lo_, ln_]); first | done | rfl | (simp only [List.length_drop, List.length_take]; rfl)) ?_
  with_reducible refine (spec_NoteOk.calls (wrap64 (rd l0 0)) t328 _ _ y333 false _ ?side1 ?side2 A9.out).mono ?_
  (case side1 => repeat (first | exact (Kd.R_reads' HO335.out).2.2 | (with_reducible refine Kd.C_alloc ?_ _) | (with_reducible refine Kd.C_drewN ?_ _) | (with_reducible refine Kd.C_drew ?_)))
  (case side2 => exact (Kd.R_reads' HO335.out).2.1)
  rintro e w65 ⟨rfl, hb⟩
  refine ⟨_, rfl, ?_⟩
  have n0_ := mk_ (Kd.R_below (Kd.ur_ HO335.out) hb)
  have n1_ := mk_ (blk_below (u_ BK326.out) hb)
  have n2_ := mk_ (blk_below (u_ BK336.out) hb)
  have n3_ := mk_ (below_step (us_ HB.out) hb)
  clear HO335
  clear BK326
  clear BK336
  clear HB
  have HO335 := n0_
  have BK326 := n1_
  have BK336 := n2_
  have HB := n3_
  clear n0_ n1_ n2_ n3_
  (try clear hb)
  (try clear hb2)
  (try clear hk)
  (try clear hi)
  refine hK.out _ _ ⟨(blk_cell BK336.out 0).trans rfl, (blk_cell BK336.out 1).trans rfl, (blk_cell BK336.out 2).trans rfl⟩ (fun hHeld => ?_)
  clear hK K
  refine norm_ (a' := ?_) ?_ ?_
  rotate_left
  ·show Act.put _ (some 21) _ = _
   simp only [Act.put, la_, lz_, ls_, i64_w, i32_w]
   rfl
  refine pure_ (i := 2) (N := some 22) (v := ?_) (a' := ?_) #[T_, T_, T_, F_, F_, F_, F_, F_, F_, F_, F_, F_, F_] rfl rfl (any_of HT_.out (by kernel_rfl)) (fun _ _ _ h => h) (Or.inl ⟨by rfl, ?_⟩) ?_ ?_
  rotate_left
  ·intro w'
   go_simp
   with_reducible rfl
  rotate_left
  ·simp only [Act.put, la_, lz_, ls_, i64_w, i32_w]
   rfl
  refine pure_ (i := 3) (N := some 23) (v := ?_) (a' := ?_) #[T_, T_, T_, T_, F_, F_, F_, F_, F_, F_, F_, F_, F_] rfl rfl (any_of HT_.out (by kernel_rfl)) (fun _ _ _ h => h) (Or.inl ⟨by rfl, ?_⟩) ?_ ?_
  rotate_left
  ·intro w'
   go_simp
   with_reducible rfl
  rotate_left
  ·simp only [Act.put, la_, lz_, ls_, i64_w, i32_w]
   rfl
  refine pure_ (i := 4) (N := some 24) (v := undef) (a' := ?_) #[T_, T_, T_, T_, T_, F_, F_, F_, F_, F_, F_, F_, F_] rfl rfl (any_of HT_.out (by kernel_rfl)) (fun _ _ _ h => h) (Or.inr ⟨by rfl, rfl⟩) ?_ ?_
  rotate_left
  ·simp only [Act.put, la_, lz_, ls_, i64_w, i32_w]
   rfl
  refine pure_ (i := 5) (N := some 25) (v := undef) (a' := ?_) #[T_, T_, T_, T_, T_, T_, F_, F_, F_, F_, F_, F_, F_] rfl rfl (any_of HT_.out (by kernel_rfl)) (fun _ _ _ h => h) (Or.inr ⟨by rfl, rfl⟩) ?_ ?_
  rotate_left
  ·simp only [Act.put, la_, lz_, ls_, i64_w, i32_w]
   rfl
  refine pure_ (i := 6) (N := some 26) (v := undef) (a' := ?_) #[T_, T_, T_, T_, T_, T_, T_, F_, F_, F_, F_, F_, F_] rfl rfl (any_of HT_.out (by kernel_rfl)) (fun _ _ _ h => h) (Or.inr ⟨by rfl, rfl⟩) ?_ ?_
  rotate_left
  ·simp only [Act.put, la_, lz_, ls_, i64_w, i32_w]
   rfl
  refine pure_ (i := 7) (N := some 27) (v := undef) (a' := ?_) #[T_, T_, T_, T_, T_, T_, T_, T_, F_, F_, F_, F_, F_] rfl rfl (any_of HT_.out (by kernel_rfl)) (fun _ _ _ h => h) (Or.inr ⟨by rfl, rfl⟩) ?_ ?_
  rotate_left
  ·simp only [Act.put, la_, lz_, ls_, i64_w, i32_w]
   rfl
  refine pure_ (i := 8) (N := some 28) (v := undef) (a' := ?_) #[T_, T_, T_, T_, T_, T_, T_, T_, T_, F_, F_, F_, F_] rfl rfl (any_of HT_.out (by kernel_rfl)) (fun _ _ _ h => h) (Or.inr ⟨by rfl, rfl⟩) ?_ ?_
  rotate_left
  ·simp only [Act.put, la_, lz_, ls_, i64_w, i32_w]
   rfl
  refine pure_ (i := 9) (N := some 29) (v := undef) (a' := ?_) #[T_, T_, T_, T_, T_, T_, T_, T_, T_, T_, F_, F_, F_] rfl rfl (any_of HT_.out (by kernel_rfl)) (fun _ _ _ h => h) (Or.inr ⟨by rfl, rfl⟩) ?_ ?_
  rotate_left
  ·simp only [Act.put, la_, lz_, ls_, i64_w, i32_w]
   rfl
  refine pure_ (i := 10) (N := some 30) (v := undef) (a' := ?_) #[T_, T_, T_, T_, T_, T_, T_, T_, T_, T_, T_, F_, F_] rfl rfl (any_of HT_.out (by kernel_rfl)) (fun _ _ _ h => h) (Or.inr ⟨by rfl, rfl⟩) ?_ ?_
  rotate_left
  ·simp only [Act.put, la_, lz_, ls_, i64_w, i32_w]
   rfl
  refine pure_ (i := 11) (N := some 31) (v := undef) (a' := ?_) #[T_, T_, T_, T_, T_, T_, T_, T_, T_, T_, T_, T_, F_] rfl rfl (any_of HT_.out (by kernel_rfl)) (fun _ _ _ h => h) (Or.inr ⟨by rfl, rfl⟩) ?_ ?_
  rotate_left
  ·simp only [Act.put, la_, lz_, ls_, i64_w, i32_w]
   rfl
  refine pure_ (i := 12) (N := some 32) (v := ?_) (a' := ?_) #[T_, T_, T_, T_, T_, T_, T_, T_, T_, T_, T_, T_, T_] rfl rfl (any_of HT_.out (by kernel_rfl)) (fun _ _ _ h => h) (Or.inl ⟨by rfl, ?_⟩) ?_ ?_
  rotate_left
  ·intro w'
   go_simp
   with_reducible rfl
  rotate_left
  ·simp only [Act.put, la_, lz_, ls_, i64_w, i32_w]
   rfl
  refine done_ (done_of HT_.out (by kernel_rfl)) ?_
  have hnb66 := NB326_336.out
  have hnc66 := NB336_326.out
  obtain ⟨hcz67_0, hcz67_1, hcz67_2, hfz67_0, hfz67_1, hfz67_2⟩ := cells3_ BK326.out
  try go_wp2
  refine bodyPost_ret (results_ct rfl _ _ gb326 68 #[.int .i64 0, .int .i64 0, .slice none 0 0] (0, 0) _ rfl (by (with_reducible repeat (first | refine bn_ ?_ _ | refine bw_ ?_ | refine ba_ ?_ _)); refine blk_put (cs := #[.int .i64 0, .int .i64 0, .slice none 0 0]) ?_ 2 _ rfl; (with_reducible repeat (first | refine bn_ ?_ _ | refine bw_ ?_ | refine ba_ ?_ _)); refine blk_put (cs := #[.int .i64 0, .int .i64 0, .slice none 0 0]) ?_ 1 _ rfl; (with_reducible repeat (first | refine bn_ ?_ _ | refine bw_ ?_ | refine ba_ ?_ _)); refine blk_put (cs := #[.int .i64 0, .int .i64 0, .slice none 0 0]) ?_ 0 _ rfl; (with_reducible repeat (first | refine bn_ ?_ _ | refine bw_ ?_ | refine ba_ ?_ _)); exact BK326.out) Try.underlying68 rfl (by kernel_rfl)) rfl ?_
  exact ⟨_, by first | rfl | (simp [errW_none, errW_some] <;> rfl) | (simp [*, errW_none, errW_some] <;> rfl), by first | exact Kd.R_nil _ _ _ _ _ | exact Kd.N_nil _ _ _ _ _ | exact Kd.V_nil _ _ _ _ _ | exact Kd.Q_nil _ _ _ _ _ | exact Kd.S_nil _ _ _ _ _, us_ HB.out⟩
 subst c10
 have H1 : (if 3 < (l0.length : Int) then (if (wrap64 (rd l0 3)) = (y333.length : Int) then (some (wrap64 (rd l0 0), t328, y333, true)) else (some (0, 0, ([] : List Int), false))) else (none)) = some (r1, r2, r3, r4) := by rw [if_pos rfl] at H; exact H
 clear H
 have H := H1
 clear H1
 by_cases c11 : 3 < (l0.length : Int)
 rotate_left
 ·rw [if_neg c11] at H
  exact absurd H (by simp)
 rw [if_pos c11] at H
 have c11b0 : decide (3 < (l0.length : Int)) = true := decide_eq_true c11
 have c11b1 : decide (3 < l0.length) = true := decide_eq_true (by omega)
 clear c11
 by_cases c12 : (wrap64 (rd l0 3)) = (y333.length : Int)
 rotate_left
 ·rw [if_neg c12] at H
  have c12b0 : ((wrap64 (rd l0 3)) == (y333.length : Int)) = false := beq_eq_false_iff_ne.mpr c12
  have c12b1 : ((wrap64 (rd l0 3)) != (y333.length : Int)) = true := bne_iff_ne.mpr c12
  simp only [Option.some.injEq, Prod.mk.injEq] at H
  obtain ⟨rfl, rfl, rfl, rfl⟩ := H
  go_enter Try.func42, Try.ntmps42
  try go_wp2_with (first | ((with_reducible refine gate_dst (N := 2) rfl ?_); refine box_event ?hg (N := 2) ?hd (cs := #[.int .i64 0, .int .i64 0, .slice none 0 0]) (t := 68) ?hr ?_; (case hd => rfl); (case hg => rfl); (case hr => first | (go_simp; done) | (go_simp; rfl)); intro gb326 hg w32 hbox hb; have n0_ := mk_ (below_step (ub_ HB.out) hb); have n1_ := mk_ (hbox); have n2_ := mk_ ((by rw [hg]; exact (below_size (ub_ HB.out)) : w.heap.size ≤ gb326)); have n3_ := mk_ ((by rw [hg]; exact (below_size (ub_ HB.out)) : w.heap.size ≤ gb326)); clear HB; have HB := n0_; have BK326 := n1_; have GW326 := n2_; have GE326 := ge_ n3_.out; clear n0_ n1_ n2_ n3_; clear hb hbox hg; obtain ⟨i033, hi033, _, hsz33, _⟩ := info_parts info5; obtain ⟨A33, hcut33, hA33, hC33⟩ := print_drop_of (P := Try.prog) (Value.int .u8) 0 22 5 .i64 Try.underlying22 hi033 hsz33 A0 c0 l0 4 (by omega) (of_decide_eq_true (by first | (with_reducible assumption) | assumption)) HC0.out; have HR332 := mk_ (Kd.C_of_reads (h1 := fun _ => rfl) (hA33 _ (Kd.reads_of_C HR0.out))); have HC332 := mk_ hC33; clear hA33 hC33 hi033 hsz33))
  have n0_ := mk_ (blk_drew BK326.out)
  have n1_ := mk_ (below_drew1 HB.out)
  clear BK326
  clear HB
  have BK326 := n0_
  have HB := n1_
  clear n0_ n1_
  have p327 : 0 ≤ (0 : Int) := (by omega)
  have q327 : 0 < (l0.length : Int) := of_decide_eq_true (by first | (with_reducible assumption) | assumption)
  obtain ⟨ad327, e327, hx327_0⟩ := Kd.at_int HR0.out 0 p327 q327
  have hw327_0 := hx327_0
  (try rw [show ((0 : Int)).toNat = 0 from rfl] at hw327_0)
  (try rw [show 0 * 1 = 0 from rfl] at hw327_0)
  (try rw [Addr.add_zero'] at hw327_0)
  cases e327
  have qi327 : (0 < l0.length) = True := eq_true (by omega)
  (try rw [show ((0 : Int)).toNat = 0 from rfl] at hx327_0)
  (try rw [Addr.add_zero'] at hx327_0)
  replace hx327_0 := (HB.out.cell (lc_ w _ hx327_0)).trans hx327_0
  replace p327 := eq_true p327
  replace q327 := eq_true q327
  refine start_ (n := 13) (S := fun w' => w'.cell? ad327 = some (.int .u8 (rd l0 0))) (ds := []) #[F_, F_, F_, F_, F_, F_, F_, F_, F_, F_, F_, F_, F_] (by kernel_rfl) rfl rfl (((HB.out.cell (lc_ w _ hw327_0)).trans hw327_0)) (fun hHeld => ?_); refine with_tabW spec_NoteFrom.tab3 spec_NoteFrom.bits3 (fun HT_ HW_ => ?_)
  generalize w32.drew = w34 at BK326 HB hx327_0 hHeld ⊢
  refine pure_ (i := 0) (N := some 9) (v := ?_) (a' := ?_) #[T_, F_, F_, F_, F_, F_, F_, F_, F_, F_, F_, F_, F_] rfl rfl (any_of HT_.out (by kernel_rfl)) (fun _ _ _ h => h) (Or.inl ⟨by rfl, ?_⟩) ?_ ?_
  rotate_left
  ·intro w'
   go_simp
   with_reducible rfl
  rotate_left
  ·simp only [Act.put, la_, lz_, ls_, i64_w, i32_w]
   rfl
  refine pure_ (i := 1) (N := some 10) (v := ?_) (a' := ?_) #[T_, T_, F_, F_, F_, F_, F_, F_, F_, F_, F_, F_, F_] rfl rfl (any_of HT_.out (by kernel_rfl)) (fun _ _ _ h => h) (Or.inl ⟨by rfl, ?_⟩) ?_ ?_
  rotate_left
  ·intro w'
   go_simp
   with_reducible rfl
  rotate_left
  ·simp only [Act.put, la_, lz_, ls_, i64_w, i32_w]
   rfl
  refine pure_ (i := 4) (N := some 13) (v := ?_) (a' := ?_) #[T_, T_, F_, F_, T_, F_, F_, F_, F_, F_, F_, F_, F_] rfl rfl (any_of HT_.out (by kernel_rfl)) (fun _ _ _ h => h) (Or.inl ⟨by rfl, ?_⟩) ?_ ?_
  rotate_left
  ·intro w'
   go_simp
   with_reducible rfl
  rotate_left
  ·simp only [Act.put, la_, lz_, ls_, i64_w, i32_w]
   rfl
  refine pure_ (i := 7) (N := some 16) (v := ?_) (a' := ?_) #[T_, T_, F_, F_, T_, F_, F_, T_, F_, F_, F_, F_, F_] rfl rfl (any_of HT_.out (by kernel_rfl)) (fun _ _ _ h => h) (Or.inl ⟨by rfl, ?_⟩) ?_ ?_
  rotate_left
  ·intro w'
   go_simp
   with_reducible rfl
  rotate_left
  ·simp only [Act.put, la_, lz_, ls_, i64_w, i32_w]
   rfl
  refine pure_ (i := 8) (N := some 17) (v := ?_) (a' := ?_) #[T_, T_, F_, F_, T_, F_, F_, T_, T_, F_, F_, F_, F_] rfl rfl (any_of HT_.out (by kernel_rfl)) (fun _ _ _ h => h) (Or.inl ⟨by rfl, ?_⟩) ?_ ?_
  rotate_left
  ·intro w'
   go_simp
   with_reducible rfl
  rotate_left
  ·simp only [Act.put, la_, lz_, ls_, i64_w, i32_w]
   rfl
  refine take_ (i := 2) (N := some 11) (v := ?_) (a' := ?_) #[T_, T_, T_, F_, T_, F_, F_, T_, T_, F_, F_, F_, F_] rfl rfl (take_ofW HT_.out HW_.out (by kernel_rfl)) (fun _ _ _ h => h) (Or.inl ⟨by rfl, ?_⟩) hHeld ?_ ?_
  rotate_left
  ·intro w' s0
   go_simp
   with_reducible rfl
  rotate_left
  ·simp only [Act.put, la_, lz_, ls_, i64_w, i32_w]
   rfl
  refine pure_ (i := 3) (N := some 12) (v := ?_) (a' := ?_) #[T_, T_, T_, T_, T_, F_, F_, T_, T_, F_, F_, F_, F_] rfl rfl (any_of HT_.out (by kernel_rfl)) (fun _ _ _ h => h) (Or.inl ⟨by rfl, ?_⟩) ?_ ?_
  rotate_left
  ·intro w'
   go_simp
   with_reducible rfl
  rotate_left
  ·simp only [Act.put, la_, lz_, ls_, i64_w, i32_w]
   rfl
  refine join_ (σ := Value × Value × Nat) 1 #[T_, T_, T_, T_, T_, T_, T_, T_, T_, T_, T_, T_, F_] (fun s_ => [(14, .int .i64 t328), (15, s_.1), (18, s_.2.1), (4, .pointer (some ⟨s_.2.2, 0, none⟩)), (19, .agg #[.int .i64 (wrap64 (rd l0 0)), .int .i64 t328, s_.2.1])]) (fun s_ w' => (w'.cell? ad327 = some (.int .u8 (rd l0 0))) ∧ (Kd.R (Kd.int .u8) 5 w' w.heap.size (fun _ => True) s_.2.1 y333) ∧ (w'.heap[gb326]? = some (.cells #[.int .i64 0, .int .i64 0, .slice none 0 0] 68 (0, 0))) ∧ (w'.heap[s_.2.2]? = some (.cells #[.int .i64 0, .int .i64 0, .slice none 0 0] 68 (0, 0))) ∧ (w.heap.size ≤ s_.2.2) ∧ (w.heap.size ≤ s_.2.2) ∧ (gb326 ≠ s_.2.2) ∧ (s_.2.2 ≠ gb326) ∧ (Below w.heap.size w w')) ?_ ?_
  rotate_left
  ·intro hJ5_6_9_11
   refine join_ (σ := Value × Value) 2 #[T_, T_, T_, T_, T_, T_, T_, T_, T_, T_, T_, F_, F_] (fun s_ => [(14, .int .i64 t328), (15, s_.1), (18, s_.2), (19, .agg #[.int .i64 (wrap64 (rd l0 0)), .int .i64 t328, s_.2])]) (fun s_ w' => (w'.cell? ad327 = some (.int .u8 (rd l0 0))) ∧ (Kd.R (Kd.int .u8) 5 w' w.heap.size (fun _ => True) s_.2 y333) ∧ (w'.heap[gb326]? = some (.cells #[.int .i64 0, .int .i64 0, .slice none 0 0] 68 (0, 0))) ∧ (Below w.heap.size w w')) ?_ ?_
   rotate_left
   ·intro hJ5_6_9
    refine join_ (σ := Value × Nat) 3 #[T_, T_, T_, T_, T_, T_, T_, T_, T_, F_, F_, T_, F_] (fun s_ => [(14, .int .i64 t328), (15, s_.1), (4, .pointer (some ⟨s_.2, 0, none⟩))]) (fun s_ w' => (w'.cell? ad327 = some (.int .u8 (rd l0 0))) ∧ (Kd.R (Kd.int .u8) 5 w' w.heap.size (fun _ => True) s_.1 y329) ∧ (w'.heap[gb326]? = some (.cells #[.int .i64 0, .int .i64 0, .slice none 0 0] 68 (0, 0))) ∧ (w'.heap[s_.2]? = some (.cells #[.int .i64 0, .int .i64 0, .slice none 0 0] 68 (0, 0))) ∧ (w.heap.size ≤ s_.2) ∧ (w.heap.size ≤ s_.2) ∧ (gb326 ≠ s_.2) ∧ (s_.2 ≠ gb326) ∧ (Below w.heap.size w w')) ?_ ?_
    rotate_left
    ·intro hJ5_6_11
     refine join_ (σ := Value) 4 #[T_, T_, T_, T_, T_, T_, T_, T_, T_, F_, F_, F_, F_] (fun s_ => [(14, .int .i64 t328), (15, s_)]) (fun s_ w' => (w'.cell? ad327 = some (.int .u8 (rd l0 0))) ∧ (Kd.R (Kd.int .u8) 5 w' w.heap.size (fun _ => True) s_ y329) ∧ (w'.heap[gb326]? = some (.cells #[.int .i64 0, .int .i64 0, .slice none 0 0] 68 (0, 0))) ∧ (Below w.heap.size w w')) ?_ ?_
     rotate_left
     ·intro hJ5_6
      refine join_ (σ := Nat) 4 #[T_, T_, T_, T_, T_, T_, F_, T_, T_, F_, F_, T_, F_] (fun s_ => [(14, .int .i64 t328), (4, .pointer (some ⟨s_, 0, none⟩))]) (fun s_ w' => (w'.cell? ad327 = some (.int .u8 (rd l0 0))) ∧ (w'.heap[gb326]? = some (.cells #[.int .i64 0, .int .i64 0, .slice none 0 0] 68 (0, 0))) ∧ (w'.heap[s_]? = some (.cells #[.int .i64 0, .int .i64 0, .slice none 0 0] 68 (0, 0))) ∧ (w.heap.size ≤ s_) ∧ (w.heap.size ≤ s_) ∧ (gb326 ≠ s_) ∧ (s_ ≠ gb326) ∧ (Below w.heap.size w w')) ?_ ?_
      rotate_left
      ·intro hJ5_11
       refine join_ (σ := Value × Nat) 4 #[T_, T_, T_, T_, T_, F_, T_, T_, T_, F_, F_, T_, F_] (fun s_ => [(15, s_.1), (4, .pointer (some ⟨s_.2, 0, none⟩))]) (fun s_ w' => (w'.cell? ad327 = some (.int .u8 (rd l0 0))) ∧ (Kd.R (Kd.int .u8) 5 w' w.heap.size (fun _ => True) s_.1 y329) ∧ (w'.heap[gb326]? = some (.cells #[.int .i64 0, .int .i64 0, .slice none 0 0] 68 (0, 0))) ∧ (w'.heap[s_.2]? = some (.cells #[.int .i64 0, .int .i64 0, .slice none 0 0] 68 (0, 0))) ∧ (w.heap.size ≤ s_.2) ∧ (w.heap.size ≤ s_.2) ∧ (gb326 ≠ s_.2) ∧ (s_.2 ≠ gb326) ∧ (Below w.heap.size w w')) ?_ ?_
       rotate_left
       ·intro hJ6_11
        refine join_ (σ := Unit) 5 #[T_, T_, T_, T_, T_, T_, F_, T_, T_, F_, F_, F_, F_] (fun s_ => [(14, .int .i64 t328)]) (fun s_ w' => (w'.cell? ad327 = some (.int .u8 (rd l0 0))) ∧ (w'.heap[gb326]? = some (.cells #[.int .i64 0, .int .i64 0, .slice none 0 0] 68 (0, 0))) ∧ (Below w.heap.size w w')) ?_ ?_
        rotate_left
        ·intro hJ5
         refine join_ (σ := Value) 5 #[T_, T_, T_, T_, T_, F_, T_, T_, T_, F_, F_, F_, F_] (fun s_ => [(15, s_)]) (fun s_ w' => (w'.cell? ad327 = some (.int .u8 (rd l0 0))) ∧ (Kd.R (Kd.int .u8) 5 w' w.heap.size (fun _ => True) s_ y329) ∧ (w'.heap[gb326]? = some (.cells #[.int .i64 0, .int .i64 0, .slice none 0 0] 68 (0, 0))) ∧ (Below w.heap.size w w')) ?_ ?_
         rotate_left
         ·intro hJ6
          refine join_ (σ := Nat) 5 #[T_, T_, T_, T_, T_, F_, F_, T_, T_, F_, F_, T_, F_] (fun s_ => [(4, .pointer (some ⟨s_, 0, none⟩))]) (fun s_ w' => (w'.cell? ad327 = some (.int .u8 (rd l0 0))) ∧ (w'.heap[gb326]? = some (.cells #[.int .i64 0, .int .i64 0, .slice none 0 0] 68 (0, 0))) ∧ (w'.heap[s_]? = some (.cells #[.int .i64 0, .int .i64 0, .slice none 0 0] 68 (0, 0))) ∧ (w.heap.size ≤ s_) ∧ (w.heap.size ≤ s_) ∧ (gb326 ≠ s_) ∧ (s_ ≠ gb326) ∧ (Below w.heap.size w w')) ?_ ?_
          rotate_left
          ·intro hJ11
           refine three_ (i := 5) (j := 6) (k := 11) (Ni := some 14) (Nj := some 15) (Nk := some 4) #[T_, T_, T_, T_, T_, T_, F_, T_, T_, F_, F_, F_, F_] #[T_, T_, T_, T_, T_, F_, T_, T_, T_, F_, F_, F_, F_] #[T_, T_, T_, T_, T_, F_, F_, T_, T_, F_, F_, T_, F_] rfl rfl rfl rfl rfl rfl (three_of HT_.out (by kernel_rfl)) (by decide) (by decide) (by decide) (fun K hK => ?_) (fun K hK => ?_) (fun K hK => ?_)
           ·skip
            refine goes_ Try.func81 (by kernel_rfl) rfl #[.slice (some ad327) l0.length c0, .int .i64 1, .int .i64 2] (by rfl) rfl rfl (by (try simp only [lm_, lo_, ln_]); first | done | rfl | (simp only [List.length_drop, List.length_take]; rfl)) ?_
            with_reducible refine (spec_NumberAt.calls k _ _ l0 1 2 t328 _ ?side1 ?side2 A6.out).mono ?_
            (case side1 => repeat (first | exact (Kd.C_below HR0.out HB.out) | (with_reducible refine Kd.C_alloc ?_ _) | (with_reducible refine Kd.C_drewN ?_ _) | (with_reducible refine Kd.C_drew ?_)))
            (case side2 => exact HC0.out)
            rintro e w' ⟨rfl, ⟨nd, rfl⟩⟩
            refine ⟨_, rfl, ?_⟩
            refine hK.out _ _ (((HB.out.cell (lc_ w _ hw327_0)).trans hw327_0)) (fun hHeld => ?_)
            clear hK K
            refine norm_ (a' := ?_) ?_ ?_
            rotate_left
            ·show Act.put _ (some 14) _ = _
             simp only [Act.put, la_, lz_, ls_, i64_w, i32_w]
             rfl
            exact norm_ (by first | (simp only [putAll, Act.put, la_, lz_, ls_]; done) | (simp only [putAll, Act.put, la_, lz_, ls_]; rfl)) (hJ5 () _ ⟨hHeld, (u_ BK326.out), (us_ HB.out)⟩)
           ·skip
            refine Kd.R_lit_step (Kd.int .u8) _ 5 ?hg (N := 15) ?hd (xs := ([] : List Int)) (inner := []) (ok := fun _ => True) (okp := fun _ => True) ?hr ?hp (fun _ hk => hk) trivial (Below.refl _ _) (Nat.le_refl _) (by simp) ?_; (case hd => rfl); (case hg => rfl); (case hr => first | (go_simp; done) | (go_simp; rfl)); (case hp => exact (Reps.none _ _))
            intro v330 w35 ho36 hb hg_ hnew_
            clear hg_ hnew_
            (first | rw [← Ny329.out] at ho36 | (simp only [Int.reduceToNat] at ho36; rw [← Ny329.out] at ho36))
            have n0_ := mk_ (Kd.R_lower ho36 (below_size (us_ HB.out)))
            have n1_ := mk_ (blk_below (u_ BK326.out) hb)
            have n2_ := mk_ (below_step (us_ HB.out) hb)
            clear BK326
            clear HB
            have HO331 := n0_
            have BK326 := n1_
            have HB := n2_
            clear n0_ n1_ n2_
            clear hb ho36
            refine hK.out _ _ (((HB.out.cell (lc_ w _ hw327_0)).trans hw327_0)) (fun hHeld => ?_)
            clear hK K
            refine norm_ (a' := ?_) ?_ ?_
            rotate_left
            ·show Act.put _ (some 15) _ = _
             simp only [Act.put, la_, lz_, ls_, i64_w, i32_w]
             rfl
            exact norm_ (by first | (simp only [putAll, Act.put, la_, lz_, ls_]; done) | (simp only [putAll, Act.put, la_, lz_, ls_]; rfl)) (hJ6 (v330) _ ⟨hHeld, (Kd.ur_ HO331.out), (u_ BK326.out), (us_ HB.out)⟩)
           skip
           refine box_step ?hg (N := 4) ?hd (cs := #[.int .i64 0, .int .i64 0, .slice none 0 0]) (t := 68) ?hr ?_; (case hd => rfl); (case hg => rfl); (case hr => first | (go_simp; done) | (go_simp; rfl))
           intro gb336 hg w35 hbox hb
           have n0_ := mk_ (blk_below (u_ BK326.out) hb)
           have n1_ := mk_ (below_step (us_ HB.out) hb)
           have n2_ := mk_ (hbox)
           have n3_ := mk_ ((by rw [hg]; exact (below_size (us_ HB.out)) : w.heap.size ≤ gb336))
           have n4_ := mk_ ((by rw [hg]; exact (below_size (us_ HB.out)) : w.heap.size ≤ gb336))
           have n5_ := mk_ ((by rw [hg]; exact Nat.ne_of_lt (blk_lt (u_ BK326.out)) : gb326 ≠ gb336))
           have n6_ := mk_ ((by rw [hg]; exact Nat.ne_of_gt (blk_lt (u_ BK326.out)) : gb336 ≠ gb326))
           clear BK326
           clear HB
           have BK326 := n0_
           have HB := n1_
           have BK336 := n2_
           have GW336 := n3_
           have GE336 := ge_ n4_.out
           have NB326_336 := nq_ n5_.out
           have NB336_326 := nq_ n6_.out
           clear n0_ n1_ n2_ n3_ n4_ n5_ n6_
           clear hb hbox hg
           refine hK.out _ _ (((HB.out.cell (lc_ w _ hw327_0)).trans hw327_0)) (fun hHeld => ?_)
           clear hK K
           refine norm_ (a' := ?_) ?_ ?_
           rotate_left
           ·show Act.put _ (some 4) _ = _
            simp only [Act.put, la_, lz_, ls_, i64_w, i32_w]
            rfl
           exact norm_ (by first | (simp only [putAll, Act.put, la_, lz_, ls_]; done) | (simp only [putAll, Act.put, la_, lz_, ls_]; rfl)) (hJ11 (gb336) _ ⟨hHeld, (u_ BK326.out), (u_ BK336.out), GW336.out, GE336.out, NB326_336.out, NB336_326.out, (us_ HB.out)⟩)
          skip
          rintro gb336 w36 ⟨hS_, h0_, h1_, h2_, h3_, h4_, h5_, h6_⟩
          have n0_ : Aside0 (w36.heap[gb326]? = some (.cells #[.int .i64 0, .int .i64 0, .slice none 0 0] 68 (0, 0))) := ⟨h0_⟩
          have n1_ : Aside0 (w36.heap[gb336]? = some (.cells #[.int .i64 0, .int .i64 0, .slice none 0 0] 68 (0, 0))) := ⟨h1_⟩
          have n2_ : Aside0 (w.heap.size ≤ gb336) := ⟨h2_⟩
          have n3_ : Aside0 (w.heap.size ≤ gb336) := ⟨h3_⟩
          have n4_ : Aside0 (gb326 ≠ gb336) := ⟨h4_⟩
          have n5_ : Aside0 (gb336 ≠ gb326) := ⟨h5_⟩
          have n6_ : Aside0 (Below w.heap.size w w36) := ⟨h6_⟩
          clear BK326
          clear HB
          clear h0_ h1_ h2_ h3_ h4_ h5_ h6_
          have BK326 := n0_
          have BK336 := n1_
          have GW336 := n2_
          have GE336 := ge_ n3_.out
          have NB326_336 := nq_ n4_.out
          have NB336_326 := nq_ n5_.out
          have HB := n6_
          clear n0_ n1_ n2_ n3_ n4_ n5_ n6_
          have hHeld : w36.cell? ad327 = some (.int .u8 (rd l0 0)) := hS_
          refine norm_ (a' := ?_) ?_ ?_
          rotate_left
          ·simp only [putAll, Act.put, la_, lz_, ls_]
           rfl
          refine two_ (i := 5) (j := 6) (Ni := some 14) (Nj := some 15) #[T_, T_, T_, T_, T_, T_, F_, T_, T_, F_, F_, T_, F_] #[T_, T_, T_, T_, T_, F_, T_, T_, T_, F_, F_, T_, F_] rfl rfl rfl rfl (two_of HT_.out (by kernel_rfl)) (by decide) (by decide) (fun K hK => ?_) (fun K hK => ?_)
          ·skip
           refine goes_ Try.func81 (by kernel_rfl) rfl #[.slice (some ad327) l0.length c0, .int .i64 1, .int .i64 2] (by rfl) rfl rfl (by (try simp only [lm_, lo_, ln_]); first | done | rfl | (simp only [List.length_drop, List.length_take]; rfl)) ?_
           with_reducible refine (spec_NumberAt.calls k _ _ l0 1 2 t328 _ ?side1 ?side2 A6.out).mono ?_
           (case side1 => repeat (first | exact (Kd.C_below HR0.out HB.out) | (with_reducible refine Kd.C_alloc ?_ _) | (with_reducible refine Kd.C_drewN ?_ _) | (with_reducible refine Kd.C_drew ?_)))
           (case side2 => exact HC0.out)
           rintro e w' ⟨rfl, ⟨nd, rfl⟩⟩
           refine ⟨_, rfl, ?_⟩
           refine hK.out _ _ (((HB.out.cell (lc_ w _ hw327_0)).trans hw327_0)) (fun hHeld => ?_)
           clear hK K
           refine norm_ (a' := ?_) ?_ ?_
           rotate_left
           ·show Act.put _ (some 14) _ = _
            simp only [Act.put, la_, lz_, ls_, i64_w, i32_w]
            rfl
           exact norm_ (by first | (simp only [putAll, Act.put, la_, lz_, ls_]; done) | (simp only [putAll, Act.put, la_, lz_, ls_]; rfl)) (hJ5_11 (gb336) _ ⟨hHeld, (u_ BK326.out), (u_ BK336.out), GW336.out, GE336.out, NB326_336.out, NB336_326.out, (us_ HB.out)⟩)
          skip
          refine Kd.R_lit_step (Kd.int .u8) _ 5 ?hg (N := 15) ?hd (xs := ([] : List Int)) (inner := []) (ok := fun _ => True) (okp := fun _ => True) ?hr ?hp (fun _ hk => hk) trivial (Below.refl _ _) (Nat.le_refl _) (by simp) ?_; (case hd => rfl); (case hg => rfl); (case hr => first | (go_simp; done) | (go_simp; rfl)); (case hp => exact (Reps.none _ _))
          intro v330 w37 ho38 hb hg_ hnew_
          clear hg_ hnew_
          (first | rw [← Ny329.out] at ho38 | (simp only [Int.reduceToNat] at ho38; rw [← Ny329.out] at ho38))
          have n0_ := mk_ (Kd.R_lower ho38 (below_size (us_ HB.out)))
          have n1_ := mk_ (blk_below (u_ BK326.out) hb)
          have n2_ := mk_ (blk_below (u_ BK336.out) hb)
          have n3_ := mk_ (below_step (us_ HB.out) hb)
          clear BK326
          clear BK336
          clear HB
          have HO331 := n0_
          have BK326 := n1_
          have BK336 := n2_
          have HB := n3_
          clear n0_ n1_ n2_ n3_
          clear hb ho38
          refine hK.out _ _ (((HB.out.cell (lc_ w _ hw327_0)).trans hw327_0)) (fun hHeld => ?_)
          clear hK K
          refine norm_ (a' := ?_) ?_ ?_
          rotate_left
          ·show Act.put _ (some 15) _ = _
           simp only [Act.put, la_, lz_, ls_, i64_w, i32_w]
           rfl
          exact norm_ (by first | (simp only [putAll, Act.put, la_, lz_, ls_]; done) | (simp only [putAll, Act.put, la_, lz_, ls_]; rfl)) (hJ6_11 (v330, gb336) _ ⟨hHeld, (Kd.ur_ HO331.out), (u_ BK326.out), (u_ BK336.out), GW336.out, GE336.out, NB326_336.out, NB336_326.out, (us_ HB.out)⟩)
         skip
         rintro v330 w37 ⟨hS_, h0_, h1_, h2_⟩
         have n0_ : Aside0 (Kd.R (Kd.int .u8) 5 w37 w.heap.size (fun _ => True) v330 y329) := ⟨h0_⟩
         have n1_ : Aside0 (w37.heap[gb326]? = some (.cells #[.int .i64 0, .int .i64 0, .slice none 0 0] 68 (0, 0))) := ⟨h1_⟩
         have n2_ : Aside0 (Below w.heap.size w w37) := ⟨h2_⟩
         clear BK326
         clear HB
         clear h0_ h1_ h2_
         have HO331 := n0_
         have BK326 := n1_
         have HB := n2_
         clear n0_ n1_ n2_
         have hHeld : w37.cell? ad327 = some (.int .u8 (rd l0 0)) := hS_
         refine norm_ (a' := ?_) ?_ ?_
         rotate_left
         ·simp only [putAll, Act.put, la_, lz_, ls_]
          rfl
         refine two_ (i := 5) (j := 11) (Ni := some 14) (Nj := some 4) #[T_, T_, T_, T_, T_, T_, T_, T_, T_, F_, F_, F_, F_] #[T_, T_, T_, T_, T_, F_, T_, T_, T_, F_, F_, T_, F_] rfl rfl rfl rfl (two_of HT_.out (by kernel_rfl)) (by decide) (by decide) (fun K hK => ?_) (fun K hK => ?_)
         ·skip
          refine goes_ Try.func81 (by kernel_rfl) rfl #[.slice (some ad327) l0.length c0, .int .i64 1, .int .i64 2] (by rfl) rfl rfl (by (try simp only [lm_, lo_, ln_]); first | done | rfl | (simp only [List.length_drop, List.length_take]; rfl)) ?_
          with_reducible refine (spec_NumberAt.calls k _ _ l0 1 2 t328 _ ?side1 ?side2 A6.out).mono ?_
          (case side1 => repeat (first | exact (Kd.C_below HR0.out HB.out) | (with_reducible refine Kd.C_alloc ?_ _) | (with_reducible refine Kd.C_drewN ?_ _) | (with_reducible refine Kd.C_drew ?_)))
          (case side2 => exact HC0.out)
          rintro e w' ⟨rfl, ⟨nd, rfl⟩⟩
          refine ⟨_, rfl, ?_⟩
          refine hK.out _ _ (((HB.out.cell (lc_ w _ hw327_0)).trans hw327_0)) (fun hHeld => ?_)
          clear hK K
          refine norm_ (a' := ?_) ?_ ?_
          rotate_left
          ·show Act.put _ (some 14) _ = _
           simp only [Act.put, la_, lz_, ls_, i64_w, i32_w]
           rfl
          exact norm_ (by first | (simp only [putAll, Act.put, la_, lz_, ls_]; done) | (simp only [putAll, Act.put, la_, lz_, ls_]; rfl)) (hJ5_6 (v330) _ ⟨hHeld, (Kd.ur_ HO331.out), (u_ BK326.out), (us_ HB.out)⟩)
         skip
         refine box_step ?hg (N := 4) ?hd (cs := #[.int .i64 0, .int .i64 0, .slice none 0 0]) (t := 68) ?hr ?_; (case hd => rfl); (case hg => rfl); (case hr => first | (go_simp; done) | (go_simp; rfl))
         intro gb336 hg w38 hbox hb
         have n0_ := mk_ (Kd.R_below (Kd.ur_ HO331.out) hb)
         have n1_ := mk_ (blk_below (u_ BK326.out) hb)
         have n2_ := mk_ (below_step (us_ HB.out) hb)
         have n3_ := mk_ (hbox)
         have n4_ := mk_ ((by rw [hg]; exact (below_size (us_ HB.out)) : w.heap.size ≤ gb336))
         have n5_ := mk_ ((by rw [hg]; exact (below_size (us_ HB.out)) : w.heap.size ≤ gb336))
         have n6_ := mk_ ((by rw [hg]; exact Nat.ne_of_lt (blk_lt (u_ BK326.out)) : gb326 ≠ gb336))
         have n7_ := mk_ ((by rw [hg]; exact Nat.ne_of_gt (blk_lt (u_ BK326.out)) : gb336 ≠ gb326))
         clear HO331
         clear BK326
         clear HB
         have HO331 := n0_
         have BK326 := n1_
         have HB := n2_
         have BK336 := n3_
         have GW336 := n4_
         have GE336 := ge_ n5_.out
         have NB326_336 := nq_ n6_.out
         have NB336_326 := nq_ n7_.out
         clear n0_ n1_ n2_ n3_ n4_ n5_ n6_ n7_
         clear hb hbox hg
         refine hK.out _ _ (((HB.out.cell (lc_ w _ hw327_0)).trans hw327_0)) (fun hHeld => ?_)
         clear hK K
         refine norm_ (a' := ?_) ?_ ?_
         rotate_left
         ·show Act.put _ (some 4) _ = _
          simp only [Act.put, la_, lz_, ls_, i64_w, i32_w]
          rfl
         exact norm_ (by first | (simp only [putAll, Act.put, la_, lz_, ls_]; done) | (simp only [putAll, Act.put, la_, lz_, ls_]; rfl)) (hJ6_11 (v330, gb336) _ ⟨hHeld, (Kd.ur_ HO331.out), (u_ BK326.out), (u_ BK336.out), GW336.out, GE336.out, NB326_336.out, NB336_326.out, (us_ HB.out)⟩)
        skip
        rintro _ w35 ⟨hS_, h0_, h1_⟩
        have n0_ : Aside0 (w35.heap[gb326]? = some (.cells #[.int .i64 0, .int .i64 0, .slice none 0 0] 68 (0, 0))) := ⟨h0_⟩
        have n1_ : Aside0 (Below w.heap.size w w35) := ⟨h1_⟩
        clear BK326
        clear HB
        clear h0_ h1_
        have BK326 := n0_
        have HB := n1_
        clear n0_ n1_
        have hHeld : w35.cell? ad327 = some (.int .u8 (rd l0 0)) := hS_
        refine norm_ (a' := ?_) ?_ ?_
        rotate_left
        ·simp only [putAll, Act.put, la_, lz_, ls_]
         rfl
        refine two_ (i := 6) (j := 11) (Ni := some 15) (Nj := some 4) #[T_, T_, T_, T_, T_, T_, T_, T_, T_, F_, F_, F_, F_] #[T_, T_, T_, T_, T_, T_, F_, T_, T_, F_, F_, T_, F_] rfl rfl rfl rfl (two_of HT_.out (by kernel_rfl)) (by decide) (by decide) (fun K hK => ?_) (fun K hK => ?_)
        ·skip
         refine Kd.R_lit_step (Kd.int .u8) _ 5 ?hg (N := 15) ?hd (xs := ([] : List Int)) (inner := []) (ok := fun _ => True) (okp := fun _ => True) ?hr ?hp (fun _ hk => hk) trivial (Below.refl _ _) (Nat.le_refl _) (by simp) ?_; (case hd => rfl); (case hg => rfl); (case hr => first | (go_simp; done) | (go_simp; rfl)); (case hp => exact (Reps.none _ _))
         intro v330 w36 ho37 hb hg_ hnew_
         clear hg_ hnew_
         (first | rw [← Ny329.out] at ho37 | (simp only [Int.reduceToNat] at ho37; rw [← Ny329.out] at ho37))
         have n0_ := mk_ (Kd.R_lower ho37 (below_size (us_ HB.out)))
         have n1_ := mk_ (blk_below (u_ BK326.out) hb)
         have n2_ := mk_ (below_step (us_ HB.out) hb)
         clear BK326
         clear HB
         have HO331 := n0_
         have BK326 := n1_
         have HB := n2_
         clear n0_ n1_ n2_
         clear hb ho37
         refine hK.out _ _ (((HB.out.cell (lc_ w _ hw327_0)).trans hw327_0)) (fun hHeld => ?_)
         clear hK K
         refine norm_ (a' := ?_) ?_ ?_
         rotate_left
         ·show Act.put _ (some 15) _ = _
          simp only [Act.put, la_, lz_, ls_, i64_w, i32_w]
          rfl
         exact norm_ (by first | (simp only [putAll, Act.put, la_, lz_, ls_]; done) | (simp only [putAll, Act.put, la_, lz_, ls_]; rfl)) (hJ5_6 (v330) _ ⟨hHeld, (Kd.ur_ HO331.out), (u_ BK326.out), (us_ HB.out)⟩)
        skip
        refine box_step ?hg (N := 4) ?hd (cs := #[.int .i64 0, .int .i64 0, .slice none 0 0]) (t := 68) ?hr ?_; (case hd => rfl); (case hg => rfl); (case hr => first | (go_simp; done) | (go_simp; rfl))
        intro gb336 hg w36 hbox hb
        have n0_ := mk_ (blk_below (u_ BK326.out) hb)
        have n1_ := mk_ (below_step (us_ HB.out) hb)
        have n2_ := mk_ (hbox)
        have n3_ := mk_ ((by rw [hg]; exact (below_size (us_ HB.out)) : w.heap.size ≤ gb336))
        have n4_ := mk_ ((by rw [hg]; exact (below_size (us_ HB.out)) : w.heap.size ≤ gb336))
        have n5_ := mk_ ((by rw [hg]; exact Nat.ne_of_lt (blk_lt (u_ BK326.out)) : gb326 ≠ gb336))
        have n6_ := mk_ ((by rw [hg]; exact Nat.ne_of_gt (blk_lt (u_ BK326.out)) : gb336 ≠ gb326))
        clear BK326
        clear HB
        have BK326 := n0_
        have HB := n1_
        have BK336 := n2_
        have GW336 := n3_
        have GE336 := ge_ n4_.out
        have NB326_336 := nq_ n5_.out
        have NB336_326 := nq_ n6_.out
        clear n0_ n1_ n2_ n3_ n4_ n5_ n6_
        clear hb hbox hg
        refine hK.out _ _ (((HB.out.cell (lc_ w _ hw327_0)).trans hw327_0)) (fun hHeld => ?_)
        clear hK K
        refine norm_ (a' := ?_) ?_ ?_
        rotate_left
        ·show Act.put _ (some 4) _ = _
         simp only [Act.put, la_, lz_, ls_, i64_w, i32_w]
         rfl
        exact norm_ (by first | (simp only [putAll, Act.put, la_, lz_, ls_]; done) | (simp only [putAll, Act.put, la_, lz_, ls_]; rfl)) (hJ5_11 (gb336) _ ⟨hHeld, (u_ BK326.out), (u_ BK336.out), GW336.out, GE336.out, NB326_336.out, NB336_326.out, (us_ HB.out)⟩)
       skip
       rintro ⟨v330, gb336⟩ w38 ⟨hS_, h0_, h1_, h2_, h3_, h4_, h5_, h6_, h7_⟩
       have n0_ : Aside0 (Kd.R (Kd.int .u8) 5 w38 w.heap.size (fun _ => True) v330 y329) := ⟨h0_⟩
       have n1_ : Aside0 (w38.heap[gb326]? = some (.cells #[.int .i64 0, .int .i64 0, .slice none 0 0] 68 (0, 0))) := ⟨h1_⟩
       have n2_ : Aside0 (w38.heap[gb336]? = some (.cells #[.int .i64 0, .int .i64 0, .slice none 0 0] 68 (0, 0))) := ⟨h2_⟩
       have n3_ : Aside0 (w.heap.size ≤ gb336) := ⟨h3_⟩
       have n4_ : Aside0 (w.heap.size ≤ gb336) := ⟨h4_⟩
       have n5_ : Aside0 (gb326 ≠ gb336) := ⟨h5_⟩
       have n6_ : Aside0 (gb336 ≠ gb326) := ⟨h6_⟩
       have n7_ : Aside0 (Below w.heap.size w w38) := ⟨h7_⟩
       clear BK326
       clear HB
       clear h0_ h1_ h2_ h3_ h4_ h5_ h6_ h7_
       have HO331 := n0_
       have BK326 := n1_
       have BK336 := n2_
       have GW336 := n3_
       have GE336 := ge_ n4_.out
       have NB326_336 := nq_ n5_.out
       have NB336_326 := nq_ n6_.out
       have HB := n7_
       clear n0_ n1_ n2_ n3_ n4_ n5_ n6_ n7_
       have hHeld : w38.cell? ad327 = some (.int .u8 (rd l0 0)) := hS_
       refine norm_ (a' := ?_) ?_ ?_
       rotate_left
       ·simp only [putAll, Act.put, la_, lz_, ls_]
        rfl
       refine one_ (i := 5) (N := some 14) #[T_, T_, T_, T_, T_, T_, T_, T_, T_, F_, F_, T_, F_] rfl rfl (one_of HT_.out (by kernel_rfl)) (by decide) (fun K hK => ?_)
       refine goes_ Try.func81 (by kernel_rfl) rfl #[.slice (some ad327) l0.length c0, .int .i64 1, .int .i64 2] (by rfl) rfl rfl (by (try simp only [lm_, lo_, ln_]); first | done | rfl | (simp only [List.length_drop, List.length_take]; rfl)) ?_
       with_reducible refine (spec_NumberAt.calls k _ _ l0 1 2 t328 _ ?side1 ?side2 A6.out).mono ?_
       (case side1 => repeat (first | exact (Kd.C_below HR0.out HB.out) | (with_reducible refine Kd.C_alloc ?_ _) | (with_reducible refine Kd.C_drewN ?_ _) | (with_reducible refine Kd.C_drew ?_)))
       (case side2 => exact HC0.out)
       rintro e w' ⟨rfl, ⟨nd, rfl⟩⟩
       refine ⟨_, rfl, ?_⟩
       refine hK.out _ _ (((HB.out.cell (lc_ w _ hw327_0)).trans hw327_0)) (fun hHeld => ?_)
       clear hK K
       refine norm_ (a' := ?_) ?_ ?_
       rotate_left
       ·show Act.put _ (some 14) _ = _
        simp only [Act.put, la_, lz_, ls_, i64_w, i32_w]
        rfl
       exact norm_ (by first | (simp only [putAll, Act.put, la_, lz_, ls_]; done) | (simp only [putAll, Act.put, la_, lz_, ls_]; rfl)) (hJ5_6_11 (v330, gb336) _ ⟨hHeld, (Kd.ur_ HO331.out), (u_ BK326.out), (u_ BK336.out), GW336.out, GE336.out, NB326_336.out, NB336_326.out, (us_ HB.out)⟩)
      skip
      rintro gb336 w36 ⟨hS_, h0_, h1_, h2_, h3_, h4_, h5_, h6_⟩
      have n0_ : Aside0 (w36.heap[gb326]? = some (.cells #[.int .i64 0, .int .i64 0, .slice none 0 0] 68 (0, 0))) := ⟨h0_⟩
      have n1_ : Aside0 (w36.heap[gb336]? = some (.cells #[.int .i64 0, .int .i64 0, .slice none 0 0] 68 (0, 0))) := ⟨h1_⟩
      have n2_ : Aside0 (w.heap.size ≤ gb336) := ⟨h2_⟩
      have n3_ : Aside0 (w.heap.size ≤ gb336) := ⟨h3_⟩
      have n4_ : Aside0 (gb326 ≠ gb336) := ⟨h4_⟩
      have n5_ : Aside0 (gb336 ≠ gb326) := ⟨h5_⟩
      have n6_ : Aside0 (Below w.heap.size w w36) := ⟨h6_⟩
      clear BK326
      clear HB
      clear h0_ h1_ h2_ h3_ h4_ h5_ h6_
      have BK326 := n0_
      have BK336 := n1_
      have GW336 := n2_
      have GE336 := ge_ n3_.out
      have NB326_336 := nq_ n4_.out
      have NB336_326 := nq_ n5_.out
      have HB := n6_
      clear n0_ n1_ n2_ n3_ n4_ n5_ n6_
      have hHeld : w36.cell? ad327 = some (.int .u8 (rd l0 0)) := hS_
      refine norm_ (a' := ?_) ?_ ?_
      rotate_left
      ·simp only [putAll, Act.put, la_, lz_, ls_]
       rfl
      refine one_ (i := 6) (N := some 15) #[T_, T_, T_, T_, T_, T_, T_, T_, T_, F_, F_, T_, F_] rfl rfl (one_of HT_.out (by kernel_rfl)) (by decide) (fun K hK => ?_)
      refine Kd.R_lit_step (Kd.int .u8) _ 5 ?hg (N := 15) ?hd (xs := ([] : List Int)) (inner := []) (ok := fun _ => True) (okp := fun _ => True) ?hr ?hp (fun _ hk => hk) trivial (Below.refl _ _) (Nat.le_refl _) (by simp) ?_; (case hd => rfl); (case hg => rfl); (case hr => first | (go_simp; done) | (go_simp; rfl)); (case hp => exact (Reps.none _ _))
      intro v330 w37 ho38 hb hg_ hnew_
      clear hg_ hnew_
      (first | rw [← Ny329.out] at ho38 | (simp only [Int.reduceToNat] at ho38; rw [← Ny329.out] at ho38))
      have n0_ := mk_ (Kd.R_lower ho38 (below_size (us_ HB.out)))
      have n1_ := mk_ (blk_below (u_ BK326.out) hb)
      have n2_ := mk_ (blk_below (u_ BK336.out) hb)
      have n3_ := mk_ (below_step (us_ HB.out) hb)
      clear BK326
      clear BK336
      clear HB
      have HO331 := n0_
      have BK326 := n1_
      have BK336 := n2_
      have HB := n3_
      clear n0_ n1_ n2_ n3_
      clear hb ho38
      refine hK.out _ _ (((HB.out.cell (lc_ w _ hw327_0)).trans hw327_0)) (fun hHeld => ?_)
      clear hK K
      refine norm_ (a' := ?_) ?_ ?_
      rotate_left
      ·show Act.put _ (some 15) _ = _
       simp only [Act.put, la_, lz_, ls_, i64_w, i32_w]
       rfl
      exact norm_ (by first | (simp only [putAll, Act.put, la_, lz_, ls_]; done) | (simp only [putAll, Act.put, la_, lz_, ls_]; rfl)) (hJ5_6_11 (v330, gb336) _ ⟨hHeld, (Kd.ur_ HO331.out), (u_ BK326.out), (u_ BK336.out), GW336.out, GE336.out, NB326_336.out, NB336_326.out, (us_ HB.out)⟩)
     skip
     rintro v330 w37 ⟨hS_, h0_, h1_, h2_⟩
     have n0_ : Aside0 (Kd.R (Kd.int .u8) 5 w37 w.heap.size (fun _ => True) v330 y329) := ⟨h0_⟩
     have n1_ : Aside0 (w37.heap[gb326]? = some (.cells #[.int .i64 0, .int .i64 0, .slice none 0 0] 68 (0, 0))) := ⟨h1_⟩
     have n2_ : Aside0 (Below w.heap.size w w37) := ⟨h2_⟩
     clear BK326
     clear HB
     clear h0_ h1_ h2_
     have HO331 := n0_
     have BK326 := n1_
     have HB := n2_
     clear n0_ n1_ n2_
     have hHeld : w37.cell? ad327 = some (.int .u8 (rd l0 0)) := hS_
     refine norm_ (a' := ?_) ?_ ?_
     rotate_left
     ·simp only [putAll, Act.put, la_, lz_, ls_]
      rfl
     refine two_ (i := 9) (j := 11) (Ni := some 18) (Nj := some 4) #[T_, T_, T_, T_, T_, T_, T_, T_, T_, T_, F_, F_, F_] #[T_, T_, T_, T_, T_, T_, T_, T_, T_, F_, F_, T_, F_] rfl rfl rfl rfl (two_of HT_.out (by kernel_rfl)) (by decide) (by decide) (fun K hK => ?_) (fun K hK => ?_)
     ·skip
      refine Kd.R_append_rows_step (Kd.int .u8) (w0 := w) w.heap.size (by rfl) (.tmp 15) (.tmp 17) 22 5 (.int .u8 0) 1 rfl Try.underlying22 info5 rfl (by decide) (by omega) v330 y329 (l0.drop 4) _ _ _ (fun _ => True) (fun _ => False) rfl rfl ?aO ?aR (fun _ _ h => h) (fun _ h => h.elim) ?aF ?aB ?aS ?aL ?_
      (case aR => first | (have e_ := (Kd.C_below HR332.out HB.out); rw [show (l0.drop 4).length = (l0.length - 4) from List.length_drop] at e_; exact e_) | (rw [← show (l0.drop 4).length = (l0.length - 4) from List.length_drop]; repeat (first | exact (Kd.C_below HR332.out HB.out) | (with_reducible refine Kd.C_alloc ?_ _) | (with_reducible refine Kd.C_drewN ?_ _) | (with_reducible refine Kd.C_drew ?_))) | (repeat (first | exact (Kd.C_below HR332.out HB.out) | (with_reducible refine Kd.C_alloc ?_ _) | (with_reducible refine Kd.C_drewN ?_ _) | (with_reducible refine Kd.C_drew ?_))))
      (case aB => exact (us_ HB.out))
      (case aF => exact (fun _ _ => trivial))
      (case aO => exact (Kd.ur_ HO331.out))
      (case aS => exact (below_size (us_ HB.out)))
      (case aL => have := LMc8.out; have hlx_ := (show (l0.drop 4).length = (l0.length - 4) from List.length_drop); omega)
      intro v334 w38 ho hb hg hat
      rw [← Ny333.out] at ho
      have n0_ := mk_ (blk_grown (g := gb326) (o := .cells #[.int .i64 0, .int .i64 0, .slice none 0 0] 68 (0, 0)) (u_ BK326.out) hg (Kd.R_ne HO331.out BK326.out (by decide)))
      have n1_ := mk_ (hb)
      have n2_ := mk_ (ho)
      clear BK326
      clear HB
      clear HO331
      have BK326 := n0_
      have HB := n1_
      have HO335 := n2_
      clear n0_ n1_ n2_
      clear ho hb hg hat
      obtain ⟨Ao39, co39, eo39⟩ := Kd.R_slice HO335.out
      (first | subst eo39 | (injection eo39 with f1_ f2_ f3_; have f4_ := f1_.symm; have f5_ := f3_.symm; clear f1_ f2_ f3_; subst f4_; subst f5_))
      refine hK.out _ _ (((HB.out.cell (lc_ w _ hw327_0)).trans hw327_0)) (fun hHeld => ?_)
      clear hK K
      refine norm_ (a' := ?_) ?_ ?_
      rotate_left
      ·show Act.put _ (some 18) _ = _
       simp only [Act.put, la_, lz_, ls_, i64_w, i32_w]
       rfl
      refine pure_ (i := 10) (N := some 19) (v := ?_) (a' := ?_) #[T_, T_, T_, T_, T_, T_, T_, T_, T_, T_, T_, F_, F_] rfl rfl (any_of HT_.out (by kernel_rfl)) (fun _ _ _ h => h) (Or.inl ⟨by rfl, ?_⟩) ?_ ?_
      rotate_left
      ·intro w'
       go_simp
       with_reducible rfl
      rotate_left
      ·simp only [Act.put, la_, lz_, ls_, i64_w, i32_w]
       rfl
      exact norm_ (by first | (simp only [putAll, Act.put, la_, lz_, ls_]; done) | (simp only [putAll, Act.put, la_, lz_, ls_]; rfl)) (hJ5_6_9 (v330, .slice Ao39 y333.length co39) _ ⟨hHeld, (Kd.ur_ HO335.out), (u_ BK326.out), (us_ HB.out)⟩)
     skip
     refine box_step ?hg (N := 4) ?hd (cs := #[.int .i64 0, .int .i64 0, .slice none 0 0]) (t := 68) ?hr ?_; (case hd => rfl); (case hg => rfl); (case hr => first | (go_simp; done) | (go_simp; rfl))
     intro gb336 hg w38 hbox hb
     have n0_ := mk_ (Kd.R_below (Kd.ur_ HO331.out) hb)
     have n1_ := mk_ (blk_below (u_ BK326.out) hb)
     have n2_ := mk_ (below_step (us_ HB.out) hb)
     have n3_ := mk_ (hbox)
     have n4_ := mk_ ((by rw [hg]; exact (below_size (us_ HB.out)) : w.heap.size ≤ gb336))
     have n5_ := mk_ ((by rw [hg]; exact (below_size (us_ HB.out)) : w.heap.size ≤ gb336))
     have n6_ := mk_ ((by rw [hg]; exact Nat.ne_of_lt (blk_lt (u_ BK326.out)) : gb326 ≠ gb336))
     have n7_ := mk_ ((by rw [hg]; exact Nat.ne_of_gt (blk_lt (u_ BK326.out)) : gb336 ≠ gb326))
     clear HO331
     clear BK326
     clear HB
     have HO331 := n0_
     have BK326 := n1_
     have HB := n2_
     have BK336 := n3_
     have GW336 := n4_
     have GE336 := ge_ n5_.out
     have NB326_336 := nq_ n6_.out
     have NB336_326 := nq_ n7_.out
     clear n0_ n1_ n2_ n3_ n4_ n5_ n6_ n7_
     clear hb hbox hg
     refine hK.out _ _ (((HB.out.cell (lc_ w _ hw327_0)).trans hw327_0)) (fun hHeld => ?_)
     clear hK K
     refine norm_ (a' := ?_) ?_ ?_
     rotate_left
     ·show Act.put _ (some 4) _ = _
      simp only [Act.put, la_, lz_, ls_, i64_w, i32_w]
      rfl
     exact norm_ (by first | (simp only [putAll, Act.put, la_, lz_, ls_]; done) | (simp only [putAll, Act.put, la_, lz_, ls_]; rfl)) (hJ5_6_11 (v330, gb336) _ ⟨hHeld, (Kd.ur_ HO331.out), (u_ BK326.out), (u_ BK336.out), GW336.out, GE336.out, NB326_336.out, NB336_326.out, (us_ HB.out)⟩)
    skip
    rintro ⟨v330, gb336⟩ w38 ⟨hS_, h0_, h1_, h2_, h3_, h4_, h5_, h6_, h7_⟩
    have n0_ : Aside0 (Kd.R (Kd.int .u8) 5 w38 w.heap.size (fun _ => True) v330 y329) := ⟨h0_⟩
    have n1_ : Aside0 (w38.heap[gb326]? = some (.cells #[.int .i64 0, .int .i64 0, .slice none 0 0] 68 (0, 0))) := ⟨h1_⟩
    have n2_ : Aside0 (w38.heap[gb336]? = some (.cells #[.int .i64 0, .int .i64 0, .slice none 0 0] 68 (0, 0))) := ⟨h2_⟩
    have n3_ : Aside0 (w.heap.size ≤ gb336) := ⟨h3_⟩
    have n4_ : Aside0 (w.heap.size ≤ gb336) := ⟨h4_⟩
    have n5_ : Aside0 (gb326 ≠ gb336) := ⟨h5_⟩
    have n6_ : Aside0 (gb336 ≠ gb326) := ⟨h6_⟩
    have n7_ : Aside0 (Below w.heap.size w w38) := ⟨h7_⟩
    clear BK326
    clear HB
    clear h0_ h1_ h2_ h3_ h4_ h5_ h6_ h7_
    have HO331 := n0_
    have BK326 := n1_
    have BK336 := n2_
    have GW336 := n3_
    have GE336 := ge_ n4_.out
    have NB326_336 := nq_ n5_.out
    have NB336_326 := nq_ n6_.out
    have HB := n7_
    clear n0_ n1_ n2_ n3_ n4_ n5_ n6_ n7_
    have hHeld : w38.cell? ad327 = some (.int .u8 (rd l0 0)) := hS_
    refine norm_ (a' := ?_) ?_ ?_
    rotate_left
    ·simp only [putAll, Act.put, la_, lz_, ls_]
     rfl
    refine one_ (i := 9) (N := some 18) #[T_, T_, T_, T_, T_, T_, T_, T_, T_, T_, F_, T_, F_] rfl rfl (one_of HT_.out (by kernel_rfl)) (by decide) (fun K hK => ?_)
    refine Kd.R_append_rows_step (Kd.int .u8) (w0 := w) w.heap.size (by rfl) (.tmp 15) (.tmp 17) 22 5 (.int .u8 0) 1 rfl Try.underlying22 info5 rfl (by decide) (by omega) v330 y329 (l0.drop 4) _ _ _ (fun _ => True) (fun _ => False) rfl rfl ?aO ?aR (fun _ _ h => h) (fun _ h => h.elim) ?aF ?aB ?aS ?aL ?_
    (case aR => first | (have e_ := (Kd.C_below HR332.out HB.out); rw [show (l0.drop 4).length = (l0.length - 4) from List.length_drop] at e_; exact e_) | (rw [← show (l0.drop 4).length = (l0.length - 4) from List.length_drop]; repeat (first | exact (Kd.C_below HR332.out HB.out) | (with_reducible refine Kd.C_alloc ?_ _) | (with_reducible refine Kd.C_drewN ?_ _) | (with_reducible refine Kd.C_drew ?_))) | (repeat (first | exact (Kd.C_below HR332.out HB.out) | (with_reducible refine Kd.C_alloc ?_ _) | (with_reducible refine Kd.C_drewN ?_ _) | (with_reducible refine Kd.C_drew ?_))))
    (case aB => exact (us_ HB.out))
    (case aF => exact (fun _ _ => trivial))
    (case aO => exact (Kd.ur_ HO331.out))
    (case aS => exact (below_size (us_ HB.out)))
    (case aL => have := LMc8.out; have hlx_ := (show (l0.drop 4).length = (l0.length - 4) from List.length_drop); omega)
    intro v334 w39 ho hb hg hat
    rw [← Ny333.out] at ho
    have n0_ := mk_ (blk_grown (g := gb326) (o := .cells #[.int .i64 0, .int .i64 0, .slice none 0 0] 68 (0, 0)) (u_ BK326.out) hg (Kd.R_ne HO331.out BK326.out (by decide)))
    have n1_ := mk_ (blk_grown (g := gb336) (o := .cells #[.int .i64 0, .int .i64 0, .slice none 0 0] 68 (0, 0)) (u_ BK336.out) hg (Kd.R_ne HO331.out BK336.out (by decide)))
    have n2_ := mk_ (hb)
    have n3_ := mk_ (ho)
    clear BK326
    clear BK336
    clear HB
    clear HO331
    have BK326 := n0_
    have BK336 := n1_
    have HB := n2_
    have HO335 := n3_
    clear n0_ n1_ n2_ n3_
    clear ho hb hg hat
    obtain ⟨Ao40, co40, eo40⟩ := Kd.R_slice HO335.out
    (first | subst eo40 | (injection eo40 with f1_ f2_ f3_; have f4_ := f1_.symm; have f5_ := f3_.symm; clear f1_ f2_ f3_; subst f4_; subst f5_))
    refine hK.out _ _ (((HB.out.cell (lc_ w _ hw327_0)).trans hw327_0)) (fun hHeld => ?_)
    clear hK K
    refine norm_ (a' := ?_) ?_ ?_
    rotate_left
    ·show Act.put _ (some 18) _ = _
     simp only [Act.put, la_, lz_, ls_, i64_w, i32_w]
     rfl
    refine pure_ (i := 10) (N := some 19) (v := ?_) (a' := ?_) #[T_, T_, T_, T_, T_, T_, T_, T_, T_, T_, T_, T_, F_] rfl rfl (any_of HT_.out (by kernel_rfl)) (fun _ _ _ h => h) (Or.inl ⟨by rfl, ?_⟩) ?_ ?_
    rotate_left
    ·intro w'
     go_simp
     with_reducible rfl
    rotate_left
    ·simp only [Act.put, la_, lz_, ls_, i64_w, i32_w]
     rfl
    exact norm_ (by first | (simp only [putAll, Act.put, la_, lz_, ls_]; done) | (simp only [putAll, Act.put, la_, lz_, ls_]; rfl)) (hJ5_6_9_11 (v330, .slice Ao40 y333.length co40, gb336) _ ⟨hHeld, (Kd.ur_ HO335.out), (u_ BK326.out), (u_ BK336.out), GW336.out, GE336.out, NB326_336.out, NB336_326.out, (us_ HB.out)⟩)
   skip
   rintro ⟨v330, v334⟩ w39 ⟨hS_, h0_, h1_, h2_⟩
   have n0_ : Aside0 (Kd.R (Kd.int .u8) 5 w39 w.heap.size (fun _ => True) v334 y333) := ⟨h0_⟩
   have n1_ : Aside0 (w39.heap[gb326]? = some (.cells #[.int .i64 0, .int .i64 0, .slice none 0 0] 68 (0, 0))) := ⟨h1_⟩
   have n2_ : Aside0 (Below w.heap.size w w39) := ⟨h2_⟩
   clear BK326
   clear HB
   clear h0_ h1_ h2_
   have HO335 := n0_
   have BK326 := n1_
   have HB := n2_
   clear n0_ n1_ n2_
   have hHeld : w39.cell? ad327 = some (.int .u8 (rd l0 0)) := hS_
   obtain ⟨Ao40, co40, eo40⟩ := Kd.R_slice HO335.out
   (first | subst eo40 | (injection eo40 with f1_ f2_ f3_; have f4_ := f1_.symm; have f5_ := f3_.symm; clear f1_ f2_ f3_; subst f4_; subst f5_))
   refine norm_ (a' := ?_) ?_ ?_
   rotate_left
   ·simp only [putAll, Act.put, la_, lz_, ls_]
    rfl
   refine one_ (i := 11) (N := some 4) #[T_, T_, T_, T_, T_, T_, T_, T_, T_, T_, T_, T_, F_] rfl rfl (one_of HT_.out (by kernel_rfl)) (by decide) (fun K hK => ?_)
   refine box_step ?hg (N := 4) ?hd (cs := #[.int .i64 0, .int .i64 0, .slice none 0 0]) (t := 68) ?hr ?_; (case hd => rfl); (case hg => rfl); (case hr => first | (go_simp; done) | (go_simp; rfl))
   intro gb336 hg w41 hbox hb
   have n0_ := mk_ (Kd.R_below (Kd.ur_ HO335.out) hb)
   have n1_ := mk_ (blk_below (u_ BK326.out) hb)
   have n2_ := mk_ (below_step (us_ HB.out) hb)
   have n3_ := mk_ (hbox)
   have n4_ := mk_ ((by rw [hg]; exact (below_size (us_ HB.out)) : w.heap.size ≤ gb336))
   have n5_ := mk_ ((by rw [hg]; exact (below_size (us_ HB.out)) : w.heap.size ≤ gb336))
   have n6_ := mk_ ((by rw [hg]; exact Nat.ne_of_lt (blk_lt (u_ BK326.out)) : gb326 ≠ gb336))
   have n7_ := mk_ ((by rw [hg]; exact Nat.ne_of_gt (blk_lt (u_ BK326.out)) : gb336 ≠ gb326))
   clear HO335
   clear BK326
   clear HB
   have HO335 := n0_
   have BK326 := n1_
   have HB := n2_
   have BK336 := n3_
   have GW336 := n4_
   have GE336 := ge_ n5_.out
   have NB326_336 := nq_ n6_.out
   have NB336_326 := nq_ n7_.out
   clear n0_ n1_ n2_ n3_ n4_ n5_ n6_ n7_
   clear hb hbox hg
   refine hK.out _ _ (((HB.out.cell (lc_ w _ hw327_0)).trans hw327_0)) (fun hHeld => ?_)
   clear hK K
   refine norm_ (a' := ?_) ?_ ?_
   rotate_left
   ·show Act.put _ (some 4) _ = _
    simp only [Act.put, la_, lz_, ls_, i64_w, i32_w]
    rfl
   exact norm_ (by first | (simp only [putAll, Act.put, la_, lz_, ls_]; done) | (simp only [putAll, Act.put, la_, lz_, ls_]; rfl)) (hJ5_6_9_11 (v330, .slice Ao40 y333.length co40, gb336) _ ⟨hHeld, (Kd.ur_ HO335.out), (u_ BK326.out), (u_ BK336.out), GW336.out, GE336.out, NB326_336.out, NB336_326.out, (us_ HB.out)⟩)
  rintro ⟨v330, v334, gb336⟩ w40 ⟨hS_, h0_, h1_, h2_, h3_, h4_, h5_, h6_, h7_⟩
  have n0_ : Aside0 (Kd.R (Kd.int .u8) 5 w40 w.heap.size (fun _ => True) v334 y333) := ⟨h0_⟩
  have n1_ : Aside0 (w40.heap[gb326]? = some (.cells #[.int .i64 0, .int .i64 0, .slice none 0 0] 68 (0, 0))) := ⟨h1_⟩
  have n2_ : Aside0 (w40.heap[gb336]? = some (.cells #[.int .i64 0, .int .i64 0, .slice none 0 0] 68 (0, 0))) := ⟨h2_⟩
  have n3_ : Aside0 (w.heap.size ≤ gb336) := ⟨h3_⟩
  have n4_ : Aside0 (w.heap.size ≤ gb336) := ⟨h4_⟩
  have n5_ : Aside0 (gb326 ≠ gb336) := ⟨h5_⟩
  have n6_ : Aside0 (gb336 ≠ gb326) := ⟨h6_⟩
  have n7_ : Aside0 (Below w.heap.size w w40) := ⟨h7_⟩
  clear BK326
  clear HB
  clear h0_ h1_ h2_ h3_ h4_ h5_ h6_ h7_
  have HO335 := n0_
  have BK326 := n1_
  have BK336 := n2_
  have GW336 := n3_
  have GE336 := ge_ n4_.out
  have NB326_336 := nq_ n5_.out
  have NB336_326 := nq_ n6_.out
  have HB := n7_
  clear n0_ n1_ n2_ n3_ n4_ n5_ n6_ n7_
  have hHeld : w40.cell? ad327 = some (.int .u8 (rd l0 0)) := hS_
  obtain ⟨Ao41, co41, eo41⟩ := Kd.R_slice HO335.out
  (first | subst eo41 | (injection eo41 with f1_ f2_ f3_; have f4_ := f1_.symm; have f5_ := f3_.symm; clear f1_ f2_ f3_; subst f4_; subst f5_))
  refine norm_ (a' := ?_) ?_ ?_
  rotate_left
  ·simp only [putAll, Act.put, la_, lz_, ls_]
   rfl
  refine one_ (i := 12) (N := none) #[T_, T_, T_, T_, T_, T_, T_, T_, T_, T_, T_, T_, T_] rfl rfl (one_of HT_.out (by kernel_rfl)) (by decide) (fun K hK => ?_)
  have hs42 : w40.cell? ⟨gb336, 0, none⟩ = some (.int .i64 0) := (blk_cell BK336.out 0).trans rfl
  have hfs42 := blk_frozen BK336.out 0
  have hns42_0 := NB326_336.out
  have hms42_0 := NB336_326.out
  have hs43 : w40.cell? ⟨gb336, 1, none⟩ = some (.int .i64 0) := (blk_cell BK336.out 1).trans rfl
  have hfs43 := blk_frozen BK336.out 1
  have hns43_0 := NB326_336.out
  have hms43_0 := NB336_326.out
  have hs44 : w40.cell? ⟨gb336, 2, none⟩ = some (.slice none 0 0) := (blk_cell BK336.out 2).trans rfl
  have hfs44 := blk_frozen BK336.out 2
  have hns44_0 := NB326_336.out
  have hms44_0 := NB336_326.out
  refine skip_ (w1 := ?_) (by rfl) rfl ?_ ?_
  rotate_left
  ·go_simp
   rfl
  refine hK.out _ _ (((cell_far (p := ⟨gb336, _, none⟩) (by first | exact (ne1_ (by have := lc_ _ _ hw327_0; first | rwa [add_block] at this | exact this) GW336.out) | (rw [add_block]; exact (ne1_ (by have := lc_ _ _ hw327_0; first | rwa [add_block] at this | exact this) GW336.out)) | (show (Addr.add _ _).block ≠ _; rw [add_block]; exact (ne1_ (by have := lc_ _ _ hw327_0; first | rwa [add_block] at this | exact this) GW336.out)) | (dsimp only; exact (ne1_ (by have := lc_ _ _ hw327_0; first | rwa [add_block] at this | exact this) GW336.out))) _).trans (((cell_far (p := ⟨gb336, _, none⟩) (by first | exact (ne1_ (by have := lc_ _ _ hw327_0; first | rwa [add_block] at this | exact this) GW336.out) | (rw [add_block]; exact (ne1_ (by have := lc_ _ _ hw327_0; first | rwa [add_block] at this | exact this) GW336.out)) | (show (Addr.add _ _).block ≠ _; rw [add_block]; exact (ne1_ (by have := lc_ _ _ hw327_0; first | rwa [add_block] at this | exact this) GW336.out)) | (dsimp only; exact (ne1_ (by have := lc_ _ _ hw327_0; first | rwa [add_block] at this | exact this) GW336.out))) _).trans (((cell_far (p := ⟨gb336, _, none⟩) (by first | exact (ne1_ (by have := lc_ _ _ hw327_0; first | rwa [add_block] at this | exact this) GW336.out) | (rw [add_block]; exact (ne1_ (by have := lc_ _ _ hw327_0; first | rwa [add_block] at this | exact this) GW336.out)) | (show (Addr.add _ _).block ≠ _; rw [add_block]; exact (ne1_ (by have := lc_ _ _ hw327_0; first | rwa [add_block] at this | exact this) GW336.out)) | (dsimp only; exact (ne1_ (by have := lc_ _ _ hw327_0; first | rwa [add_block] at this | exact this) GW336.out))) _).trans (hHeld))))))) (fun hHeld => ?_)
  clear hK K
  refine done_ (done_of HT_.out (by kernel_rfl)) ?_
  try go_wp2
  have n0_ : Aside0 (Kd.R (Kd.int .u8) 5 (((w40.setCell ⟨gb336, 0, none⟩ (.int .i64 (wrap64 (rd l0 0)))).setCell ⟨gb336, 1, none⟩ (.int .i64 t328)).setCell ⟨gb336, 2, none⟩ (.slice Ao41 y333.length co41)) w.heap.size (fun _ => True) (.slice Ao41 y333.length co41) y333) := ⟨by (with_reducible repeat (first | apply Kd.R_alloc | apply Kd.R_drewN | apply Kd.R_drew)); exact Kd.R_mono (Kd.R_far (p := ⟨gb336, 2, none⟩) (Kd.R_far (p := ⟨gb336, 1, none⟩) (Kd.R_far (p := ⟨gb336, 0, none⟩) (Kd.R_types HO335.out BK336.out (by decide)) (fun _ hk => hk.2) (.int .i64 (wrap64 (rd l0 0)))) (fun _ hk => hk.2) (.int .i64 t328)) (fun _ hk => hk.2) (.slice Ao41 y333.length co41)) (fun _ hk => trivial)⟩
  have n1_ : Aside0 ((((w40.setCell ⟨gb336, 0, none⟩ (.int .i64 (wrap64 (rd l0 0)))).setCell ⟨gb336, 1, none⟩ (.int .i64 t328)).setCell ⟨gb336, 2, none⟩ (.slice Ao41 y333.length co41)).heap[gb326]? = some (.cells #[.int .i64 0, .int .i64 0, .slice none 0 0] 68 (0, 0))) := ⟨uf_ BK326.out⟩
  have n2_ : Aside0 ((((w40.setCell ⟨gb336, 0, none⟩ (.int .i64 (wrap64 (rd l0 0)))).setCell ⟨gb336, 1, none⟩ (.int .i64 t328)).setCell ⟨gb336, 2, none⟩ (.slice Ao41 y333.length co41)).heap[gb336]? = some (.cells #[.int .i64 (wrap64 (rd l0 0)), .int .i64 t328, .slice Ao41 y333.length co41] 68 (0, 0))) := ⟨by (with_reducible repeat (first | refine bn_ ?_ _ | refine bw_ ?_ | refine ba_ ?_ _)); refine blk_put (cs := #[.int .i64 (wrap64 (rd l0 0)), .int .i64 t328, .slice none 0 0]) ?_ 2 _ rfl; (with_reducible repeat (first | refine bn_ ?_ _ | refine bw_ ?_ | refine ba_ ?_ _)); refine blk_put (cs := #[.int .i64 (wrap64 (rd l0 0)), .int .i64 0, .slice none 0 0]) ?_ 1 _ rfl; (with_reducible repeat (first | refine bn_ ?_ _ | refine bw_ ?_ | refine ba_ ?_ _)); refine blk_put (cs := #[.int .i64 0, .int .i64 0, .slice none 0 0]) ?_ 0 _ rfl; (with_reducible repeat (first | refine bn_ ?_ _ | refine bw_ ?_ | refine ba_ ?_ _)); exact BK336.out⟩
  have n3_ : Aside0 (Below w.heap.size w (((w40.setCell ⟨gb336, 0, none⟩ (.int .i64 (wrap64 (rd l0 0)))).setCell ⟨gb336, 1, none⟩ (.int .i64 t328)).setCell ⟨gb336, 2, none⟩ (.slice Ao41 y333.length co41))) := ⟨us_ HB.out⟩
  (try clear HO335)
  (try clear BK326)
  (try clear BK336)
  (try clear HB)
  generalize (((w40.setCell ⟨gb336, 0, none⟩ (.int .i64 (wrap64 (rd l0 0)))).setCell ⟨gb336, 1, none⟩ (.int .i64 t328)).setCell ⟨gb336, 2, none⟩ (.slice Ao41 y333.length co41)) = w45 at n0_ n1_ n2_ n3_ ⊢
  have HO335 := n0_
  have BK326 := n1_
  have BK336 := n2_
  have HB := n3_
  clear n0_ n1_ n2_ n3_
  have n0_ := mk_ (Kd.R_drew HO335.out)
  have n1_ := mk_ (blk_drew BK326.out)
  have n2_ := mk_ (blk_drew BK336.out)
  have n3_ := mk_ (below_drew1 HB.out)
  clear HO335
  clear BK326
  clear BK336
  clear HB
  have HO335 := n0_
  have BK326 := n1_
  have BK336 := n2_
  have HB := n3_
  clear n0_ n1_ n2_ n3_
  have p338 : 0 ≤ (3 : Int) := (by omega)
  have q338 : 3 < (l0.length : Int) := of_decide_eq_true (by first | (with_reducible assumption) | assumption)
  obtain ⟨ad338, e338, hx338_0⟩ := Kd.at_int HR0.out 3 p338 q338
  have hw338_0 := hx338_0
  (try rw [show ((3 : Int)).toNat = 3 from rfl] at hw338_0)
  (try rw [show 3 * 1 = 3 from rfl] at hw338_0)
  (try simp only [Nat.reduceMul, Nat.reduceEqDiff, Go.Addr.add, ↓reduceIte] at hw338_0)
  obtain rfl : ad327 = ad338 := (by injection e338)
  (try simp only [show (3 : Int).toNat = 3 from rfl, Nat.reduceMul, Nat.reduceEqDiff, Go.Addr.add, ↓reduceIte] at hx338_0)
  have qi338 : (3 < l0.length) = True := eq_true (by omega)
  (try rw [show ((3 : Int)).toNat = 3 from rfl] at hx338_0)
  replace hx338_0 := (HB.out.cell (lc_ w _ hx338_0)).trans hx338_0
  replace p338 := eq_true p338
  replace q338 := eq_true q338
  refine start_ (n := 13) (S := fun w' => w'.cell? ⟨gb336, 0, none⟩ = some (.int .i64 (wrap64 (rd l0 0))) ∧ w'.cell? ⟨gb336, 1, none⟩ = some (.int .i64 t328) ∧ w'.cell? ⟨gb336, 2, none⟩ = some (.slice Ao41 y333.length co41) ∧ w'.cell? ⟨ad327.block, ad327.off + 3, none⟩ = some (.int .u8 (rd l0 3))) (ds := []) #[F_, F_, F_, F_, F_, F_, F_, F_, F_, F_, F_, F_, F_] (by kernel_rfl) rfl rfl ⟨(blk_cell BK336.out 0).trans rfl, (blk_cell BK336.out 1).trans rfl, (blk_cell BK336.out 2).trans rfl, ((HB.out.cell (lc_ w _ hw338_0)).trans hw338_0)⟩ (fun hHeld => ?_); refine with_tabW spec_NoteFrom.tab4 spec_NoteFrom.bits4 (fun HT_ HW_ => ?_)
  generalize w45.drew = w46 at HO335 BK326 BK336 HB hx338_0 hHeld ⊢
  refine take_ (i := 0) (N := some 20) (v := ?_) (a' := ?_) #[T_, F_, F_, F_, F_, F_, F_, F_, F_, F_, F_, F_, F_] rfl rfl (take_ofW HT_.out HW_.out (by kernel_rfl)) (fun _ _ _ h => h) (Or.inl ⟨by rfl, ?_⟩) hHeld ?_ ?_
  rotate_left
  ·rintro w' ⟨s0, s1, s2, s3⟩
   go_simp
   with_reducible rfl
  rotate_left
  ·simp only [Act.put, la_, lz_, ls_, i64_w, i32_w]
   rfl
  refine one_ (i := 1) (N := some 21) #[T_, T_, F_, F_, F_, F_, F_, F_, F_, F_, F_, F_, F_] rfl rfl (one_of HT_.out (by kernel_rfl)) (by decide) (fun K hK => ?_)
  refine goes_ Try.func82 (by kernel_rfl) rfl #[.agg #[.int .i64 (wrap64 (rd l0 0)), .int .i64 t328, .slice Ao41 y333.length co41]] (by rfl) rfl rfl (by (try simp only [lm_, lo_, ln_]); first | done | rfl | (simp only [List.length_drop, List.length_take]; rfl)) ?_
  with_reducible refine (spec_NoteOk.calls (wrap64 (rd l0 0)) t328 _ _ y333 true _ ?side1 ?side2 A9.out).mono ?_
  (case side1 => repeat (first | exact (Kd.R_reads' HO335.out).2.2 | (with_reducible refine Kd.C_alloc ?_ _) | (with_reducible refine Kd.C_drewN ?_ _) | (with_reducible refine Kd.C_drew ?_)))
  (case side2 => exact (Kd.R_reads' HO335.out).2.1)
  rintro e w47 ⟨rfl, hb⟩
  refine ⟨_, rfl, ?_⟩
  have n0_ := mk_ (Kd.R_below (Kd.ur_ HO335.out) hb)
  have n1_ := mk_ (blk_below (u_ BK326.out) hb)
  have n2_ := mk_ (blk_below (u_ BK336.out) hb)
  have n3_ := mk_ (below_step (us_ HB.out) hb)
  clear HO335
  clear BK326
  clear BK336
  clear HB
  have HO335 := n0_
  have BK326 := n1_
  have BK336 := n2_
  have HB := n3_
  clear n0_ n1_ n2_ n3_
  (try clear hb)
  (try clear hb2)
  (try clear hk)
  (try clear hi)
  refine hK.out _ _ ⟨(blk_cell BK336.out 0).trans rfl, (blk_cell BK336.out 1).trans rfl, (blk_cell BK336.out 2).trans rfl, ((HB.out.cell (lc_ w _ hw338_0)).trans hw338_0)⟩ (fun hHeld => ?_)
  clear hK K
  refine norm_ (a' := ?_) ?_ ?_
  rotate_left
  ·show Act.put _ (some 21) _ = _
   simp only [Act.put, la_, lz_, ls_, i64_w, i32_w]
   rfl
  refine pure_ (i := 2) (N := some 22) (v := ?_) (a' := ?_) #[T_, T_, T_, F_, F_, F_, F_, F_, F_, F_, F_, F_, F_] rfl rfl (any_of HT_.out (by kernel_rfl)) (fun _ _ _ h => h) (Or.inl ⟨by rfl, ?_⟩) ?_ ?_
  rotate_left
  ·intro w'
   go_simp
   with_reducible rfl
  rotate_left
  ·simp only [Act.put, la_, lz_, ls_, i64_w, i32_w]
   rfl
  refine pure_ (i := 3) (N := some 23) (v := ?_) (a' := ?_) #[T_, T_, T_, T_, F_, F_, F_, F_, F_, F_, F_, F_, F_] rfl rfl (any_of HT_.out (by kernel_rfl)) (fun _ _ _ h => h) (Or.inl ⟨by rfl, ?_⟩) ?_ ?_
  rotate_left
  ·intro w'
   go_simp
   with_reducible rfl
  rotate_left
  ·simp only [Act.put, la_, lz_, ls_, i64_w, i32_w]
   rfl
  refine pure_ (i := 4) (N := some 24) (v := ?_) (a' := ?_) #[T_, T_, T_, T_, T_, F_, F_, F_, F_, F_, F_, F_, F_] rfl rfl (any_of HT_.out (by kernel_rfl)) (fun _ _ _ h => h) (Or.inl ⟨by rfl, ?_⟩) ?_ ?_
  rotate_left
  ·intro w'
   go_simp
   with_reducible rfl
  rotate_left
  ·simp only [Act.put, la_, lz_, ls_, i64_w, i32_w]
   rfl
  refine pure_ (i := 5) (N := some 25) (v := ?_) (a' := ?_) #[T_, T_, T_, T_, T_, T_, F_, F_, F_, F_, F_, F_, F_] rfl rfl (any_of HT_.out (by kernel_rfl)) (fun _ _ _ h => h) (Or.inl ⟨by rfl, ?_⟩) ?_ ?_
  rotate_left
  ·intro w'
   go_simp
   with_reducible rfl
  rotate_left
  ·simp only [Act.put, la_, lz_, ls_, i64_w, i32_w]
   rfl
  refine pure_ (i := 8) (N := some 28) (v := ?_) (a' := ?_) #[T_, T_, T_, T_, T_, T_, F_, F_, T_, F_, F_, F_, F_] rfl rfl (any_of HT_.out (by kernel_rfl)) (fun _ _ _ h => h) (Or.inl ⟨by rfl, ?_⟩) ?_ ?_
  rotate_left
  ·intro w'
   go_simp
   with_reducible rfl
  rotate_left
  ·simp only [Act.put, la_, lz_, ls_, i64_w, i32_w]
   rfl
  refine take_ (i := 6) (N := some 26) (v := ?_) (a' := ?_) #[T_, T_, T_, T_, T_, T_, T_, F_, T_, F_, F_, F_, F_] rfl rfl (take_ofW HT_.out HW_.out (by kernel_rfl)) (fun _ _ _ h => h) (Or.inl ⟨by rfl, ?_⟩) hHeld ?_ ?_
  rotate_left
  ·rintro w' ⟨s0, s1, s2, s3⟩
   go_simp
   with_reducible rfl
  rotate_left
  ·simp only [Act.put, la_, lz_, ls_, i64_w, i32_w]
   rfl
  refine pure_ (i := 7) (N := some 27) (v := ?_) (a' := ?_) #[T_, T_, T_, T_, T_, T_, T_, T_, T_, F_, F_, F_, F_] rfl rfl (any_of HT_.out (by kernel_rfl)) (fun _ _ _ h => h) (Or.inl ⟨by rfl, ?_⟩) ?_ ?_
  rotate_left
  ·intro w'
   go_simp
   with_reducible rfl
  rotate_left
  ·simp only [Act.put, la_, lz_, ls_, i64_w, i32_w]
   rfl
  refine take_ (i := 9) (N := some 29) (v := ?_) (a' := ?_) #[T_, T_, T_, T_, T_, T_, T_, T_, T_, T_, F_, F_, F_] rfl rfl (take_ofW HT_.out HW_.out (by kernel_rfl)) (fun _ _ _ h => h) (Or.inl ⟨by rfl, ?_⟩) hHeld ?_ ?_
  rotate_left
  ·rintro w' ⟨s0, s1, s2, s3⟩
   go_simp
   with_reducible rfl
  rotate_left
  ·simp only [Act.put, la_, lz_, ls_, i64_w, i32_w]
   rfl
  refine pure_ (i := 10) (N := some 30) (v := ?_) (a' := ?_) #[T_, T_, T_, T_, T_, T_, T_, T_, T_, T_, T_, F_, F_] rfl rfl (any_of HT_.out (by kernel_rfl)) (fun _ _ _ h => h) (Or.inl ⟨by rfl, ?_⟩) ?_ ?_
  rotate_left
  ·intro w'
   go_simp
   with_reducible rfl
  rotate_left
  ·simp only [Act.put, la_, lz_, ls_, i64_w, i32_w]
   rfl
  refine pure_ (i := 11) (N := some 31) (v := ?_) (a' := ?_) #[T_, T_, T_, T_, T_, T_, T_, T_, T_, T_, T_, T_, F_] rfl rfl (any_of HT_.out (by kernel_rfl)) (fun _ _ _ h => h) (Or.inl ⟨by rfl, ?_⟩) ?_ ?_
  rotate_left
  ·intro w'
   go_simp
   with_reducible rfl
  rotate_left
  ·simp only [Act.put, la_, lz_, ls_, i64_w, i32_w]
   rfl
  refine pure_ (i := 12) (N := some 32) (v := ?_) (a' := ?_) #[T_, T_, T_, T_, T_, T_, T_, T_, T_, T_, T_, T_, T_] rfl rfl (any_of HT_.out (by kernel_rfl)) (fun _ _ _ h => h) (Or.inl ⟨by rfl, ?_⟩) ?_ ?_
  rotate_left
  ·intro w'
   go_simp
   with_reducible rfl
  rotate_left
  ·simp only [Act.put, la_, lz_, ls_, i64_w, i32_w]
   rfl
  refine done_ (done_of HT_.out (by kernel_rfl)) ?_
  have hnb48 := NB326_336.out
  have hnc48 := NB336_326.out
  obtain ⟨hcz49_0, hcz49_1, hcz49_2, hfz49_0, hfz49_1, hfz49_2⟩ := cells3_ BK326.out
  try go_wp2
  refine bodyPost_ret (results_ct rfl _ _ gb326 68 #[.int .i64 0, .int .i64 0, .slice none 0 0] (0, 0) _ rfl (by (with_reducible repeat (first | refine bn_ ?_ _ | refine bw_ ?_ | refine ba_ ?_ _)); refine blk_put (cs := #[.int .i64 0, .int .i64 0, .slice none 0 0]) ?_ 2 _ rfl; (with_reducible repeat (first | refine bn_ ?_ _ | refine bw_ ?_ | refine ba_ ?_ _)); refine blk_put (cs := #[.int .i64 0, .int .i64 0, .slice none 0 0]) ?_ 1 _ rfl; (with_reducible repeat (first | refine bn_ ?_ _ | refine bw_ ?_ | refine ba_ ?_ _)); refine blk_put (cs := #[.int .i64 0, .int .i64 0, .slice none 0 0]) ?_ 0 _ rfl; (with_reducible repeat (first | refine bn_ ?_ _ | refine bw_ ?_ | refine ba_ ?_ _)); exact BK326.out) Try.underlying68 rfl (by kernel_rfl)) rfl ?_
  exact ⟨_, by first | rfl | (simp [errW_none, errW_some] <;> rfl) | (simp [*, errW_none, errW_some] <;> rfl), by first | exact Kd.R_nil _ _ _ _ _ | exact Kd.N_nil _ _ _ _ _ | exact Kd.V_nil _ _ _ _ _ | exact Kd.Q_nil _ _ _ _ _ | exact Kd.S_nil _ _ _ _ _, us_ HB.out⟩
 rw [if_pos c12] at H
 have c12b0 : ((wrap64 (rd l0 3)) == (y333.length : Int)) = true := beq_iff_eq.mpr c12
 have c12b1 : ((wrap64 (rd l0 3)) != (y333.length : Int)) = false := bne_eq_false_iff_eq.mpr c12
 clear c12
 simp only [Option.some.injEq, Prod.mk.injEq] at H
 obtain ⟨rfl, rfl, rfl, rfl⟩ := H
 go_enter Try.func42, Try.ntmps42
 try go_wp2_with (first | ((with_reducible refine gate_dst (N := 2) rfl ?_); refine box_event ?hg (N := 2) ?hd (cs := #[.int .i64 0, .int .i64 0, .slice none 0 0]) (t := 68) ?hr ?_; (case hd => rfl); (case hg => rfl); (case hr => first | (go_simp; done) | (go_simp; rfl)); intro gb326 hg w13 hbox hb; have n0_ := mk_ (below_step (ub_ HB.out) hb); have n1_ := mk_ (hbox); have n2_ := mk_ ((by rw [hg]; exact (below_size (ub_ HB.out)) : w.heap.size ≤ gb326)); have n3_ := mk_ ((by rw [hg]; exact (below_size (ub_ HB.out)) : w.heap.size ≤ gb326)); clear HB; have HB := n0_; have BK326 := n1_; have GW326 := n2_; have GE326 := ge_ n3_.out; clear n0_ n1_ n2_ n3_; clear hb hbox hg; obtain ⟨i014, hi014, _, hsz14, _⟩ := info_parts info5; obtain ⟨A14, hcut14, hA14, hC14⟩ := print_drop_of (P := Try.prog) (Value.int .u8) 0 22 5 .i64 Try.underlying22 hi014 hsz14 A0 c0 l0 4 (by omega) (of_decide_eq_true (by first | (with_reducible assumption) | assumption)) HC0.out; have HR332 := mk_ (Kd.C_of_reads (h1 := fun _ => rfl) (hA14 _ (Kd.reads_of_C HR0.out))); have HC332 := mk_ hC14; clear hA14 hC14 hi014 hsz14))
 have n0_ := mk_ (blk_drew BK326.out)
 have n1_ := mk_ (below_drew1 HB.out)
 clear BK326
 clear HB
 have BK326 := n0_
 have HB := n1_
 clear n0_ n1_
 have p327 : 0 ≤ (0 : Int) := (by omega)
 have q327 : 0 < (l0.length : Int) := of_decide_eq_true (by first | (with_reducible assumption) | assumption)
 obtain ⟨ad327, e327, hx327_0⟩ := Kd.at_int HR0.out 0 p327 q327
 have hw327_0 := hx327_0
 (try rw [show ((0 : Int)).toNat = 0 from rfl] at hw327_0)
 (try rw [show 0 * 1 = 0 from rfl] at hw327_0)
 (try rw [Addr.add_zero'] at hw327_0)
 cases e327
 have qi327 : (0 < l0.length) = True := eq_true (by omega)
 (try rw [show ((0 : Int)).toNat = 0 from rfl] at hx327_0)
 (try rw [Addr.add_zero'] at hx327_0)
 replace hx327_0 := (HB.out.cell (lc_ w _ hx327_0)).trans hx327_0
 replace p327 := eq_true p327
 replace q327 := eq_true q327
 refine start_ (n := 13) (S := fun w' => w'.cell? ad327 = some (.int .u8 (rd l0 0))) (ds := []) #[F_, F_, F_, F_, F_, F_, F_, F_, F_, F_, F_, F_, F_] (by kernel_rfl) rfl rfl (((HB.out.cell (lc_ w _ hw327_0)).trans hw327_0)) (fun hHeld => ?_); refine with_tabW spec_NoteFrom.tab3 spec_NoteFrom.bits3 (fun HT_ HW_ => ?_)
 generalize w13.drew = w15 at BK326 HB hx327_0 hHeld ⊢
 refine pure_ (i := 0) (N := some 9) (v := ?_) (a' := ?_) #[T_, F_, F_, F_, F_, F_, F_, F_, F_, F_, F_, F_, F_] rfl rfl (any_of HT_.out (by kernel_rfl)) (fun _ _ _ h => h) (Or.inl ⟨by rfl, ?_⟩) ?_ ?_
 rotate_left
 ·intro w'
  go_simp
  with_reducible rfl
 rotate_left
 ·simp only [Act.put, la_, lz_, ls_, i64_w, i32_w]
  rfl
 refine pure_ (i := 1) (N := some 10) (v := ?_) (a' := ?_) #[T_, T_, F_, F_, F_, F_, F_, F_, F_, F_, F_, F_, F_] rfl rfl (any_of HT_.out (by kernel_rfl)) (fun _ _ _ h => h) (Or.inl ⟨by rfl, ?_⟩) ?_ ?_
 rotate_left
 ·intro w'
  go_simp
  with_reducible rfl
 rotate_left
 ·simp only [Act.put, la_, lz_, ls_, i64_w, i32_w]
  rfl
 refine pure_ (i := 4) (N := some 13) (v := ?_) (a' := ?_) #[T_, T_, F_, F_, T_, F_, F_, F_, F_, F_, F_, F_, F_] rfl rfl (any_of HT_.out (by kernel_rfl)) (fun _ _ _ h => h) (Or.inl ⟨by rfl, ?_⟩) ?_ ?_
 rotate_left
 ·intro w'
  go_simp
  with_reducible rfl
 rotate_left
 ·simp only [Act.put, la_, lz_, ls_, i64_w, i32_w]
  rfl
 refine pure_ (i := 7) (N := some 16) (v := ?_) (a' := ?_) #[T_, T_, F_, F_, T_, F_, F_, T_, F_, F_, F_, F_, F_] rfl rfl (any_of HT_.out (by kernel_rfl)) (fun _ _ _ h => h) (Or.inl ⟨by rfl, ?_⟩) ?_ ?_
 rotate_left
 ·intro w'
  go_simp
  with_reducible rfl
 rotate_left
 ·simp only [Act.put, la_, lz_, ls_, i64_w, i32_w]
  rfl
 refine pure_ (i := 8) (N := some 17) (v := ?_) (a' := ?_) #[T_, T_, F_, F_, T_, F_, F_, T_, T_, F_, F_, F_, F_] rfl rfl (any_of HT_.out (by kernel_rfl)) (fun _ _ _ h => h) (Or.inl ⟨by rfl, ?_⟩) ?_ ?_
 rotate_left
 ·intro w'
  go_simp
  with_reducible rfl
 rotate_left
 ·simp only [Act.put, la_, lz_, ls_, i64_w, i32_w]
  rfl
 refine take_ (i := 2) (N := some 11) (v := ?_) (a' := ?_) #[T_, T_, T_, F_, T_, F_, F_, T_, T_, F_, F_, F_, F_] rfl rfl (take_ofW HT_.out HW_.out (by kernel_rfl)) (fun _ _ _ h => h) (Or.inl ⟨by rfl, ?_⟩) hHeld ?_ ?_
 rotate_left
 ·intro w' s0
  go_simp
  with_reducible rfl
 rotate_left
 ·simp only [Act.put, la_, lz_, ls_, i64_w, i32_w]
  rfl
 refine pure_ (i := 3) (N := some 12) (v := ?_) (a' := ?_) #[T_, T_, T_, T_, T_, F_, F_, T_, T_, F_, F_, F_, F_] rfl rfl (any_of HT_.out (by kernel_rfl)) (fun _ _ _ h => h) (Or.inl ⟨by rfl, ?_⟩) ?_ ?_
 rotate_left
 ·intro w'
  go_simp
  with_reducible rfl
 rotate_left
 ·simp only [Act.put, la_, lz_, ls_, i64_w, i32_w]
  rfl
 refine join_ (σ := Value × Value × Nat) 1 #[T_, T_, T_, T_, T_, T_, T_, T_, T_, T_, T_, T_, F_] (fun s_ => [(14, .int .i64 t328), (15, s_.1), (18, s_.2.1), (4, .pointer (some ⟨s_.2.2, 0, none⟩)), (19, .agg #[.int .i64 (wrap64 (rd l0 0)), .int .i64 t328, s_.2.1])]) (fun s_ w' => (w'.cell? ad327 = some (.int .u8 (rd l0 0))) ∧ (Kd.R (Kd.int .u8) 5 w' w.heap.size (fun _ => True) s_.2.1 y333) ∧ (w'.heap[gb326]? = some (.cells #[.int .i64 0, .int .i64 0, .slice none 0 0] 68 (0, 0))) ∧ (w'.heap[s_.2.2]? = some (.cells #[.int .i64 0, .int .i64 0, .slice none 0 0] 68 (0, 0))) ∧ (w.heap.size ≤ s_.2.2) ∧ (w.heap.size ≤ s_.2.2) ∧ (gb326 ≠ s_.2.2) ∧ (s_.2.2 ≠ gb326) ∧ (Below w.heap.size w w')) ?_ ?_
 rotate_left
 ·intro hJ5_6_9_11
  refine join_ (σ := Value × Value) 2 #[T_, T_, T_, T_, T_, T_, T_, T_, T_, T_, T_, F_, F_] (fun s_ => [(14, .int .i64 t328), (15, s_.1), (18, s_.2), (19, .agg #[.int .i64 (wrap64 (rd l0 0)), .int .i64 t328, s_.2])]) (fun s_ w' => (w'.cell? ad327 = some (.int .u8 (rd l0 0))) ∧ (Kd.R (Kd.int .u8) 5 w' w.heap.size (fun _ => True) s_.2 y333) ∧ (w'.heap[gb326]? = some (.cells #[.int .i64 0, .int .i64 0, .slice none 0 0] 68 (0, 0))) ∧ (Below w.heap.size w w')) ?_ ?_
  rotate_left
  ·intro hJ5_6_9
   refine join_ (σ := Value × Nat) 3 #[T_, T_, T_, T_, T_, T_, T_, T_, T_, F_, F_, T_, F_] (fun s_ => [(14, .int .i64 t328), (15, s_.1), (4, .pointer (some ⟨s_.2, 0, none⟩))]) (fun s_ w' => (w'.cell? ad327 = some (.int .u8 (rd l0 0))) ∧ (Kd.R (Kd.int .u8) 5 w' w.heap.size (fun _ => True) s_.1 y329) ∧ (w'.heap[gb326]? = some (.cells #[.int .i64 0, .int .i64 0, .slice none 0 0] 68 (0, 0))) ∧ (w'.heap[s_.2]? = some (.cells #[.int .i64 0, .int .i64 0, .slice none 0 0] 68 (0, 0))) ∧ (w.heap.size ≤ s_.2) ∧ (w.heap.size ≤ s_.2) ∧ (gb326 ≠ s_.2) ∧ (s_.2 ≠ gb326) ∧ (Below w.heap.size w w')) ?_ ?_
   rotate_left
   ·intro hJ5_6_11
    refine join_ (σ := Value) 4 #[T_, T_, T_, T_, T_, T_, T_, T_, T_, F_, F_, F_, F_] (fun s_ => [(14, .int .i64 t328), (15, s_)]) (fun s_ w' => (w'.cell? ad327 = some (.int .u8 (rd l0 0))) ∧ (Kd.R (Kd.int .u8) 5 w' w.heap.size (fun _ => True) s_ y329) ∧ (w'.heap[gb326]? = some (.cells #[.int .i64 0, .int .i64 0, .slice none 0 0] 68 (0, 0))) ∧ (Below w.heap.size w w')) ?_ ?_
    rotate_left
    ·intro hJ5_6
     refine join_ (σ := Nat) 4 #[T_, T_, T_, T_, T_, T_, F_, T_, T_, F_, F_, T_, F_] (fun s_ => [(14, .int .i64 t328), (4, .pointer (some ⟨s_, 0, none⟩))]) (fun s_ w' => (w'.cell? ad327 = some (.int .u8 (rd l0 0))) ∧ (w'.heap[gb326]? = some (.cells #[.int .i64 0, .int .i64 0, .slice none 0 0] 68 (0, 0))) ∧ (w'.heap[s_]? = some (.cells #[.int .i64 0, .int .i64 0, .slice none 0 0] 68 (0, 0))) ∧ (w.heap.size ≤ s_) ∧ (w.heap.size ≤ s_) ∧ (gb326 ≠ s_) ∧ (s_ ≠ gb326) ∧ (Below w.heap.size w w')) ?_ ?_
     rotate_left
     ·intro hJ5_11
      refine join_ (σ := Value × Nat) 4 #[T_, T_, T_, T_, T_, F_, T_, T_, T_, F_, F_, T_, F_] (fun s_ => [(15, s_.1), (4, .pointer (some ⟨s_.2, 0, none⟩))]) (fun s_ w' => (w'.cell? ad327 = some (.int .u8 (rd l0 0))) ∧ (Kd.R (Kd.int .u8) 5 w' w.heap.size (fun _ => True) s_.1 y329) ∧ (w'.heap[gb326]? = some (.cells #[.int .i64 0, .int .i64 0, .slice none 0 0] 68 (0, 0))) ∧ (w'.heap[s_.2]? = some (.cells #[.int .i64 0, .int .i64 0, .slice none 0 0] 68 (0, 0))) ∧ (w.heap.size ≤ s_.2) ∧ (w.heap.size ≤ s_.2) ∧ (gb326 ≠ s_.2) ∧ (s_.2 ≠ gb326) ∧ (Below w.heap.size w w')) ?_ ?_
      rotate_left
      ·intro hJ6_11
       refine join_ (σ := Unit) 5 #[T_, T_, T_, T_, T_, T_, F_, T_, T_, F_, F_, F_, F_] (fun s_ => [(14, .int .i64 t328)]) (fun s_ w' => (w'.cell? ad327 = some (.int .u8 (rd l0 0))) ∧ (w'.heap[gb326]? = some (.cells #[.int .i64 0, .int .i64 0, .slice none 0 0] 68 (0, 0))) ∧ (Below w.heap.size w w')) ?_ ?_
       rotate_left
       ·intro hJ5
        refine join_ (σ := Value) 5 #[T_, T_, T_, T_, T_, F_, T_, T_, T_, F_, F_, F_, F_] (fun s_ => [(15, s_)]) (fun s_ w' => (w'.cell? ad327 = some (.int .u8 (rd l0 0))) ∧ (Kd.R (Kd.int .u8) 5 w' w.heap.size (fun _ => True) s_ y329) ∧ (w'.heap[gb326]? = some (.cells #[.int .i64 0, .int .i64 0, .slice none 0 0] 68 (0, 0))) ∧ (Below w.heap.size w w')) ?_ ?_
        rotate_left
        ·intro hJ6
         refine join_ (σ := Nat) 5 #[T_, T_, T_, T_, T_, F_, F_, T_, T_, F_, F_, T_, F_] (fun s_ => [(4, .pointer (some ⟨s_, 0, none⟩))]) (fun s_ w' => (w'.cell? ad327 = some (.int .u8 (rd l0 0))) ∧ (w'.heap[gb326]? = some (.cells #[.int .i64 0, .int .i64 0, .slice none 0 0] 68 (0, 0))) ∧ (w'.heap[s_]? = some (.cells #[.int .i64 0, .int .i64 0, .slice none 0 0] 68 (0, 0))) ∧ (w.heap.size ≤ s_) ∧ (w.heap.size ≤ s_) ∧ (gb326 ≠ s_) ∧ (s_ ≠ gb326) ∧ (Below w.heap.size w w')) ?_ ?_
         rotate_left
         ·intro hJ11
          refine three_ (i := 5) (j := 6) (k := 11) (Ni := some 14) (Nj := some 15) (Nk := some 4) #[T_, T_, T_, T_, T_, T_, F_, T_, T_, F_, F_, F_, F_] #[T_, T_, T_, T_, T_, F_, T_, T_, T_, F_, F_, F_, F_] #[T_, T_, T_, T_, T_, F_, F_, T_, T_, F_, F_, T_, F_] rfl rfl rfl rfl rfl rfl (three_of HT_.out (by kernel_rfl)) (by decide) (by decide) (by decide) (fun K hK => ?_) (fun K hK => ?_) (fun K hK => ?_)
          ·skip
           refine goes_ Try.func81 (by kernel_rfl) rfl #[.slice (some ad327) l0.length c0, .int .i64 1, .int .i64 2] (by rfl) rfl rfl (by (try simp only [lm_, lo_, ln_]); first | done | rfl | (simp only [List.length_drop, List.length_take]; rfl)) ?_
           with_reducible refine (spec_NumberAt.calls k _ _ l0 1 2 t328 _ ?side1 ?side2 A6.out).mono ?_
           (case side1 => repeat (first | exact (Kd.C_below HR0.out HB.out) | (with_reducible refine Kd.C_alloc ?_ _) | (with_reducible refine Kd.C_drewN ?_ _) | (with_reducible refine Kd.C_drew ?_)))
           (case side2 => exact HC0.out)
           rintro e w' ⟨rfl, ⟨nd, rfl⟩⟩
           refine ⟨_, rfl, ?_⟩
           refine hK.out _ _ (((HB.out.cell (lc_ w _ hw327_0)).trans hw327_0)) (fun hHeld => ?_)
           clear hK K
           refine norm_ (a' := ?_) ?_ ?_
           rotate_left
           ·show Act.put _ (some 14) _ = _
            simp only [Act.put, la_, lz_, ls_, i64_w, i32_w]
            rfl
           exact norm_ (by first | (simp only [putAll, Act.put, la_, lz_, ls_]; done) | (simp only [putAll, Act.put, la_, lz_, ls_]; rfl)) (hJ5 () _ ⟨hHeld, (u_ BK326.out), (us_ HB.out)⟩)
          ·skip
           refine Kd.R_lit_step (Kd.int .u8) _ 5 ?hg (N := 15) ?hd (xs := ([] : List Int)) (inner := []) (ok := fun _ => True) (okp := fun _ => True) ?hr ?hp (fun _ hk => hk) trivial (Below.refl _ _) (Nat.le_refl _) (by simp) ?_; (case hd => rfl); (case hg => rfl); (case hr => first | (go_simp; done) | (go_simp; rfl)); (case hp => exact (Reps.none _ _))
           intro v330 w16 ho17 hb hg_ hnew_
           clear hg_ hnew_
           (first | rw [← Ny329.out] at ho17 | (simp only [Int.reduceToNat] at ho17; rw [← Ny329.out] at ho17))
           have n0_ := mk_ (Kd.R_lower ho17 (below_size (us_ HB.out)))
           have n1_ := mk_ (blk_below (u_ BK326.out) hb)
           have n2_ := mk_ (below_step (us_ HB.out) hb)
           clear BK326
           clear HB
           have HO331 := n0_
           have BK326 := n1_
           have HB := n2_
           clear n0_ n1_ n2_
           clear hb ho17
           refine hK.out _ _ (((HB.out.cell (lc_ w _ hw327_0)).trans hw327_0)) (fun hHeld => ?_)
           clear hK K
           refine norm_ (a' := ?_) ?_ ?_
           rotate_left
           ·show Act.put _ (some 15) _ = _
            simp only [Act.put, la_, lz_, ls_, i64_w, i32_w]
            rfl
           exact norm_ (by first | (simp only [putAll, Act.put, la_, lz_, ls_]; done) | (simp only [putAll, Act.put, la_, lz_, ls_]; rfl)) (hJ6 (v330) _ ⟨hHeld, (Kd.ur_ HO331.out), (u_ BK326.out), (us_ HB.out)⟩)
          skip
          refine box_step ?hg (N := 4) ?hd (cs := #[.int .i64 0, .int .i64 0, .slice none 0 0]) (t := 68) ?hr ?_; (case hd => rfl); (case hg => rfl); (case hr => first | (go_simp; done) | (go_simp; rfl))
          intro gb336 hg w16 hbox hb
          have n0_ := mk_ (blk_below (u_ BK326.out) hb)
          have n1_ := mk_ (below_step (us_ HB.out) hb)
          have n2_ := mk_ (hbox)
          have n3_ := mk_ ((by rw [hg]; exact (below_size (us_ HB.out)) : w.heap.size ≤ gb336))
          have n4_ := mk_ ((by rw [hg]; exact (below_size (us_ HB.out)) : w.heap.size ≤ gb336))
          have n5_ := mk_ ((by rw [hg]; exact Nat.ne_of_lt (blk_lt (u_ BK326.out)) : gb326 ≠ gb336))
          have n6_ := mk_ ((by rw [hg]; exact Nat.ne_of_gt (blk_lt (u_ BK326.out)) : gb336 ≠ gb326))
          clear BK326
          clear HB
          have BK326 := n0_
          have HB := n1_
          have BK336 := n2_
          have GW336 := n3_
          have GE336 := ge_ n4_.out
          have NB326_336 := nq_ n5_.out
          have NB336_326 := nq_ n6_.out
          clear n0_ n1_ n2_ n3_ n4_ n5_ n6_
          clear hb hbox hg
          refine hK.out _ _ (((HB.out.cell (lc_ w _ hw327_0)).trans hw327_0)) (fun hHeld => ?_)
          clear hK K
          refine norm_ (a' := ?_) ?_ ?_
          rotate_left
          ·show Act.put _ (some 4) _ = _
           simp only [Act.put, la_, lz_, ls_, i64_w, i32_w]
           rfl
          exact norm_ (by first | (simp only [putAll, Act.put, la_, lz_, ls_]; done) | (simp only [putAll, Act.put, la_, lz_, ls_]; rfl)) (hJ11 (gb336) _ ⟨hHeld, (u_ BK326.out), (u_ BK336.out), GW336.out, GE336.out, NB326_336.out, NB336_326.out, (us_ HB.out)⟩)
         skip
         rintro gb336 w17 ⟨hS_, h0_, h1_, h2_, h3_, h4_, h5_, h6_⟩
         have n0_ : Aside0 (w17.heap[gb326]? = some (.cells #[.int .i64 0, .int .i64 0, .slice none 0 0] 68 (0, 0))) := ⟨h0_⟩
         have n1_ : Aside0 (w17.heap[gb336]? = some (.cells #[.int .i64 0, .int .i64 0, .slice none 0 0] 68 (0, 0))) := ⟨h1_⟩
         have n2_ : Aside0 (w.heap.size ≤ gb336) := ⟨h2_⟩
         have n3_ : Aside0 (w.heap.size ≤ gb336) := ⟨h3_⟩
         have n4_ : Aside0 (gb326 ≠ gb336) := ⟨h4_⟩
         have n5_ : Aside0 (gb336 ≠ gb326) := ⟨h5_⟩
         have n6_ : Aside0 (Below w.heap.size w w17) := ⟨h6_⟩
         clear BK326
         clear HB
         clear h0_ h1_ h2_ h3_ h4_ h5_ h6_
         have BK326 := n0_
         have BK336 := n1_
         have GW336 := n2_
         have GE336 := ge_ n3_.out
         have NB326_336 := nq_ n4_.out
         have NB336_326 := nq_ n5_.out
         have HB := n6_
         clear n0_ n1_ n2_ n3_ n4_ n5_ n6_
         have hHeld : w17.cell? ad327 = some (.int .u8 (rd l0 0)) := hS_
         refine norm_ (a' := ?_) ?_ ?_
         rotate_left
         ·simp only [putAll, Act.put, la_, lz_, ls_]
          rfl
         refine two_ (i := 5) (j := 6) (Ni := some 14) (Nj := some 15) #[T_, T_, T_, T_, T_, T_, F_, T_, T_, F_, F_, T_, F_] #[T_, T_, T_, T_, T_, F_, T_, T_, T_, F_, F_, T_, F_] rfl rfl rfl rfl (two_of HT_.out (by kernel_rfl)) (by decide) (by decide) (fun K hK => ?_) (fun K hK => ?_)
         ·skip
          refine goes_ Try.func81 (by kernel_rfl) rfl #[.slice (some ad327) l0.length c0, .int .i64 1, .int .i64 2] (by rfl) rfl rfl (by (try simp only [lm_, lo_, ln_]); first | done | rfl | (simp only [List.length_drop, List.length_take]; rfl)) ?_
          with_reducible refine (spec_NumberAt.calls k _ _ l0 1 2 t328 _ ?side1 ?side2 A6.out).mono ?_
          (case side1 => repeat (first | exact (Kd.C_below HR0.out HB.out) | (with_reducible refine Kd.C_alloc ?_ _) | (with_reducible refine Kd.C_drewN ?_ _) | (with_reducible refine Kd.C_drew ?_)))
          (case side2 => exact HC0.out)
          rintro e w' ⟨rfl, ⟨nd, rfl⟩⟩
          refine ⟨_, rfl, ?_⟩
          refine hK.out _ _ (((HB.out.cell (lc_ w _ hw327_0)).trans hw327_0)) (fun hHeld => ?_)
          clear hK K
          refine norm_ (a' := ?_) ?_ ?_
          rotate_left
          ·show Act.put _ (some 14) _ = _
           simp only [Act.put, la_, lz_, ls_, i64_w, i32_w]
           rfl
          exact norm_ (by first | (simp only [putAll, Act.put, la_, lz_, ls_]; done) | (simp only [putAll, Act.put, la_, lz_, ls_]; rfl)) (hJ5_11 (gb336) _ ⟨hHeld, (u_ BK326.out), (u_ BK336.out), GW336.out, GE336.out, NB326_336.out, NB336_326.out, (us_ HB.out)⟩)
         skip
         refine Kd.R_lit_step (Kd.int .u8) _ 5 ?hg (N := 15) ?hd (xs := ([] : List Int)) (inner := []) (ok := fun _ => True) (okp := fun _ => True) ?hr ?hp (fun _ hk => hk) trivial (Below.refl _ _) (Nat.le_refl _) (by simp) ?_; (case hd => rfl); (case hg => rfl); (case hr => first | (go_simp; done) | (go_simp; rfl)); (case hp => exact (Reps.none _ _))
         intro v330 w18 ho19 hb hg_ hnew_
         clear hg_ hnew_
         (first | rw [← Ny329.out] at ho19 | (simp only [Int.reduceToNat] at ho19; rw [← Ny329.out] at ho19))
         have n0_ := mk_ (Kd.R_lower ho19 (below_size (us_ HB.out)))
         have n1_ := mk_ (blk_below (u_ BK326.out) hb)
         have n2_ := mk_ (blk_below (u_ BK336.out) hb)
         have n3_ := mk_ (below_step (us_ HB.out) hb)
         clear BK326
         clear BK336
         clear HB
         have HO331 := n0_
         have BK326 := n1_
         have BK336 := n2_
         have HB := n3_
         clear n0_ n1_ n2_ n3_
         clear hb ho19
         refine hK.out _ _ (((HB.out.cell (lc_ w _ hw327_0)).trans hw327_0)) (fun hHeld => ?_)
         clear hK K
         refine norm_ (a' := ?_) ?_ ?_
         rotate_left
         ·show Act.put _ (some 15) _ = _
          simp only [Act.put, la_, lz_, ls_, i64_w, i32_w]
          rfl
         exact norm_ (by first | (simp only [putAll, Act.put, la_, lz_, ls_]; done) | (simp only [putAll, Act.put, la_, lz_, ls_]; rfl)) (hJ6_11 (v330, gb336) _ ⟨hHeld, (Kd.ur_ HO331.out), (u_ BK326.out), (u_ BK336.out), GW336.out, GE336.out, NB326_336.out, NB336_326.out, (us_ HB.out)⟩)
        skip
        rintro v330 w18 ⟨hS_, h0_, h1_, h2_⟩
        have n0_ : Aside0 (Kd.R (Kd.int .u8) 5 w18 w.heap.size (fun _ => True) v330 y329) := ⟨h0_⟩
        have n1_ : Aside0 (w18.heap[gb326]? = some (.cells #[.int .i64 0, .int .i64 0, .slice none 0 0] 68 (0, 0))) := ⟨h1_⟩
        have n2_ : Aside0 (Below w.heap.size w w18) := ⟨h2_⟩
        clear BK326
        clear HB
        clear h0_ h1_ h2_
        have HO331 := n0_
        have BK326 := n1_
        have HB := n2_
        clear n0_ n1_ n2_
        have hHeld : w18.cell? ad327 = some (.int .u8 (rd l0 0)) := hS_
        refine norm_ (a' := ?_) ?_ ?_
        rotate_left
        ·simp only [putAll, Act.put, la_, lz_, ls_]
         rfl
        refine two_ (i := 5) (j := 11) (Ni := some 14) (Nj := some 4) #[T_, T_, T_, T_, T_, T_, T_, T_, T_, F_, F_, F_, F_] #[T_, T_, T_, T_, T_, F_, T_, T_, T_, F_, F_, T_, F_] rfl rfl rfl rfl (two_of HT_.out (by kernel_rfl)) (by decide) (by decide) (fun K hK => ?_) (fun K hK => ?_)
        ·skip
         refine goes_ Try.func81 (by kernel_rfl) rfl #[.slice (some ad327) l0.length c0, .int .i64 1, .int .i64 2] (by rfl) rfl rfl (by (try simp only [lm_, lo_, ln_]); first | done | rfl | (simp only [List.length_drop, List.length_take]; rfl)) ?_
         with_reducible refine (spec_NumberAt.calls k _ _ l0 1 2 t328 _ ?side1 ?side2 A6.out).mono ?_
         (case side1 => repeat (first | exact (Kd.C_below HR0.out HB.out) | (with_reducible refine Kd.C_alloc ?_ _) | (with_reducible refine Kd.C_drewN ?_ _) | (with_reducible refine Kd.C_drew ?_)))
         (case side2 => exact HC0.out)
         rintro e w' ⟨rfl, ⟨nd, rfl⟩⟩
         refine ⟨_, rfl, ?_⟩
         refine hK.out _ _ (((HB.out.cell (lc_ w _ hw327_0)).trans hw327_0)) (fun hHeld => ?_)
         clear hK K
         refine norm_ (a' := ?_) ?_ ?_
         rotate_left
         ·show Act.put _ (some 14) _ = _
          simp only [Act.put, la_, lz_, ls_, i64_w, i32_w]
          rfl
         exact norm_ (by first | (simp only [putAll, Act.put, la_, lz_, ls_]; done) | (simp only [putAll, Act.put, la_, lz_, ls_]; rfl)) (hJ5_6 (v330) _ ⟨hHeld, (Kd.ur_ HO331.out), (u_ BK326.out), (us_ HB.out)⟩)
        skip
        refine box_step ?hg (N := 4) ?hd (cs := #[.int .i64 0, .int .i64 0, .slice none 0 0]) (t := 68) ?hr ?_; (case hd => rfl); (case hg => rfl); (case hr => first | (go_simp; done) | (go_simp; rfl))
        intro gb336 hg w19 hbox hb
        have n0_ := mk_ (Kd.R_below (Kd.ur_ HO331.out) hb)
        have n1_ := mk_ (blk_below (u_ BK326.out) hb)
        have n2_ := mk_ (below_step (us_ HB.out) hb)
        have n3_ := mk_ (hbox)
        have n4_ := mk_ ((by rw [hg]; exact (below_size (us_ HB.out)) : w.heap.size ≤ gb336))
        have n5_ := mk_ ((by rw [hg]; exact (below_size (us_ HB.out)) : w.heap.size ≤ gb336))
        have n6_ := mk_ ((by rw [hg]; exact Nat.ne_of_lt (blk_lt (u_ BK326.out)) : gb326 ≠ gb336))
        have n7_ := mk_ ((by rw [hg]; exact Nat.ne_of_gt (blk_lt (u_ BK326.out)) : gb336 ≠ gb326))
        clear HO331
        clear BK326
        clear HB
        have HO331 := n0_
        have BK326 := n1_
        have HB := n2_
        have BK336 := n3_
        have GW336 := n4_
        have GE336 := ge_ n5_.out
        have NB326_336 := nq_ n6_.out
        have NB336_326 := nq_ n7_.out
        clear n0_ n1_ n2_ n3_ n4_ n5_ n6_ n7_
        clear hb hbox hg
        refine hK.out _ _ (((HB.out.cell (lc_ w _ hw327_0)).trans hw327_0)) (fun hHeld => ?_)
        clear hK K
        refine norm_ (a' := ?_) ?_ ?_
        rotate_left
        ·show Act.put _ (some 4) _ = _
         simp only [Act.put, la_, lz_, ls_, i64_w, i32_w]
         rfl
        exact norm_ (by first | (simp only [putAll, Act.put, la_, lz_, ls_]; done) | (simp only [putAll, Act.put, la_, lz_, ls_]; rfl)) (hJ6_11 (v330, gb336) _ ⟨hHeld, (Kd.ur_ HO331.out), (u_ BK326.out), (u_ BK336.out), GW336.out, GE336.out, NB326_336.out, NB336_326.out, (us_ HB.out)⟩)
       skip
       rintro _ w16 ⟨hS_, h0_, h1_⟩
       have n0_ : Aside0 (w16.heap[gb326]? = some (.cells #[.int .i64 0, .int .i64 0, .slice none 0 0] 68 (0, 0))) := ⟨h0_⟩
       have n1_ : Aside0 (Below w.heap.size w w16) := ⟨h1_⟩
       clear BK326
       clear HB
       clear h0_ h1_
       have BK326 := n0_
       have HB := n1_
       clear n0_ n1_
       have hHeld : w16.cell? ad327 = some (.int .u8 (rd l0 0)) := hS_
       refine norm_ (a' := ?_) ?_ ?_
       rotate_left
       ·simp only [putAll, Act.put, la_, lz_, ls_]
        rfl
       refine two_ (i := 6) (j := 11) (Ni := some 15) (Nj := some 4) #[T_, T_, T_, T_, T_, T_, T_, T_, T_, F_, F_, F_, F_] #[T_, T_, T_, T_, T_, T_, F_, T_, T_, F_, F_, T_, F_] rfl rfl rfl rfl (two_of HT_.out (by kernel_rfl)) (by decide) (by decide) (fun K hK => ?_) (fun K hK => ?_)
       ·skip
        refine Kd.R_lit_step (Kd.int .u8) _ 5 ?hg (N := 15) ?hd (xs := ([] : List Int)) (inner := []) (ok := fun _ => True) (okp := fun _ => True) ?hr ?hp (fun _ hk => hk) trivial (Below.refl _ _) (Nat.le_refl _) (by simp) ?_; (case hd => rfl); (case hg => rfl); (case hr => first | (go_simp; done) | (go_simp; rfl)); (case hp => exact (Reps.none _ _))
        intro v330 w17 ho18 hb hg_ hnew_
        clear hg_ hnew_
        (first | rw [← Ny329.out] at ho18 | (simp only [Int.reduceToNat] at ho18; rw [← Ny329.out] at ho18))
        have n0_ := mk_ (Kd.R_lower ho18 (below_size (us_ HB.out)))
        have n1_ := mk_ (blk_below (u_ BK326.out) hb)
        have n2_ := mk_ (below_step (us_ HB.out) hb)
        clear BK326
        clear HB
        have HO331 := n0_
        have BK326 := n1_
        have HB := n2_
        clear n0_ n1_ n2_
        clear hb ho18
        refine hK.out _ _ (((HB.out.cell (lc_ w _ hw327_0)).trans hw327_0)) (fun hHeld => ?_)
        clear hK K
        refine norm_ (a' := ?_) ?_ ?_
        rotate_left
        ·show Act.put _ (some 15) _ = _
         simp only [Act.put, la_, lz_, ls_, i64_w, i32_w]
         rfl
        exact norm_ (by first | (simp only [putAll, Act.put, la_, lz_, ls_]; done) | (simp only [putAll, Act.put, la_, lz_, ls_]; rfl)) (hJ5_6 (v330) _ ⟨hHeld, (Kd.ur_ HO331.out), (u_ BK326.out), (us_ HB.out)⟩)
       skip
       refine box_step ?hg (N := 4) ?hd (cs := #[.int .i64 0, .int .i64 0, .slice none 0 0]) (t := 68) ?hr ?_; (case hd => rfl); (case hg => rfl); (case hr => first | (go_simp; done) | (go_simp; rfl))
       intro gb336 hg w17 hbox hb
       have n0_ := mk_ (blk_below (u_ BK326.out) hb)
       have n1_ := mk_ (below_step (us_ HB.out) hb)
       have n2_ := mk_ (hbox)
       have n3_ := mk_ ((by rw [hg]; exact (below_size (us_ HB.out)) : w.heap.size ≤ gb336))
       have n4_ := mk_ ((by rw [hg]; exact (below_size (us_ HB.out)) : w.heap.size ≤ gb336))
       have n5_ := mk_ ((by rw [hg]; exact Nat.ne_of_lt (blk_lt (u_ BK326.out)) : gb326 ≠ gb336))
       have n6_ := mk_ ((by rw [hg]; exact Nat.ne_of_gt (blk_lt (u_ BK326.out)) : gb336 ≠ gb326))
       clear BK326
       clear HB
       have BK326 := n0_
       have HB := n1_
       have BK336 := n2_
       have GW336 := n3_
       have GE336 := ge_ n4_.out
       have NB326_336 := nq_ n5_.out
       have NB336_326 := nq_ n6_.out
       clear n0_ n1_ n2_ n3_ n4_ n5_ n6_
       clear hb hbox hg
       refine hK.out _ _ (((HB.out.cell (lc_ w _ hw327_0)).trans hw327_0)) (fun hHeld => ?_)
       clear hK K
       refine norm_ (a' := ?_) ?_ ?_
       rotate_left
       ·show Act.put _ (some 4) _ = _
        simp only [Act.put, la_, lz_, ls_, i64_w, i32_w]
        rfl
       exact norm_ (by first | (simp only [putAll, Act.put, la_, lz_, ls_]; done) | (simp only [putAll, Act.put, la_, lz_, ls_]; rfl)) (hJ5_11 (gb336) _ ⟨hHeld, (u_ BK326.out), (u_ BK336.out), GW336.out, GE336.out, NB326_336.out, NB336_326.out, (us_ HB.out)⟩)
      skip
      rintro ⟨v330, gb336⟩ w19 ⟨hS_, h0_, h1_, h2_, h3_, h4_, h5_, h6_, h7_⟩
      have n0_ : Aside0 (Kd.R (Kd.int .u8) 5 w19 w.heap.size (fun _ => True) v330 y329) := ⟨h0_⟩
      have n1_ : Aside0 (w19.heap[gb326]? = some (.cells #[.int .i64 0, .int .i64 0, .slice none 0 0] 68 (0, 0))) := ⟨h1_⟩
      have n2_ : Aside0 (w19.heap[gb336]? = some (.cells #[.int .i64 0, .int .i64 0, .slice none 0 0] 68 (0, 0))) := ⟨h2_⟩
      have n3_ : Aside0 (w.heap.size ≤ gb336) := ⟨h3_⟩
      have n4_ : Aside0 (w.heap.size ≤ gb336) := ⟨h4_⟩
      have n5_ : Aside0 (gb326 ≠ gb336) := ⟨h5_⟩
      have n6_ : Aside0 (gb336 ≠ gb326) := ⟨h6_⟩
      have n7_ : Aside0 (Below w.heap.size w w19) := ⟨h7_⟩
      clear BK326
      clear HB
      clear h0_ h1_ h2_ h3_ h4_ h5_ h6_ h7_
      have HO331 := n0_
      have BK326 := n1_
      have BK336 := n2_
      have GW336 := n3_
      have GE336 := ge_ n4_.out
      have NB326_336 := nq_ n5_.out
      have NB336_326 := nq_ n6_.out
      have HB := n7_
      clear n0_ n1_ n2_ n3_ n4_ n5_ n6_ n7_
      have hHeld : w19.cell? ad327 = some (.int .u8 (rd l0 0)) := hS_
      refine norm_ (a' := ?_) ?_ ?_
      rotate_left
      ·simp only [putAll, Act.put, la_, lz_, ls_]
       rfl
      refine one_ (i := 5) (N := some 14) #[T_, T_, T_, T_, T_, T_, T_, T_, T_, F_, F_, T_, F_] rfl rfl (one_of HT_.out (by kernel_rfl)) (by decide) (fun K hK => ?_)
      refine goes_ Try.func81 (by kernel_rfl) rfl #[.slice (some ad327) l0.length c0, .int .i64 1, .int .i64 2] (by rfl) rfl rfl (by (try simp only [lm_, lo_, ln_]); first | done | rfl | (simp only [List.length_drop, List.length_take]; rfl)) ?_
      with_reducible refine (spec_NumberAt.calls k _ _ l0 1 2 t328 _ ?side1 ?side2 A6.out).mono ?_
      (case side1 => repeat (first | exact (Kd.C_below HR0.out HB.out) | (with_reducible refine Kd.C_alloc ?_ _) | (with_reducible refine Kd.C_drewN ?_ _) | (with_reducible refine Kd.C_drew ?_)))
      (case side2 => exact HC0.out)
      rintro e w' ⟨rfl, ⟨nd, rfl⟩⟩
      refine ⟨_, rfl, ?_⟩
      refine hK.out _ _ (((HB.out.cell (lc_ w _ hw327_0)).trans hw327_0)) (fun hHeld => ?_)
      clear hK K
      refine norm_ (a' := ?_) ?_ ?_
      rotate_left
      ·show Act.put _ (some 14) _ = _
       simp only [Act.put, la_, lz_, ls_, i64_w, i32_w]
       rfl
      exact norm_ (by first | (simp only [putAll, Act.put, la_, lz_, ls_]; done) | (simp only [putAll, Act.put, la_, lz_, ls_]; rfl)) (hJ5_6_11 (v330, gb336) _ ⟨hHeld, (Kd.ur_ HO331.out), (u_ BK326.out), (u_ BK336.out), GW336.out, GE336.out, NB326_336.out, NB336_326.out, (us_ HB.out)⟩)
     skip
     rintro gb336 w17 ⟨hS_, h0_, h1_, h2_, h3_, h4_, h5_, h6_⟩
     have n0_ : Aside0 (w17.heap[gb326]? = some (.cells #[.int .i64 0, .int .i64 0, .slice none 0 0] 68 (0, 0))) := ⟨h0_⟩
     have n1_ : Aside0 (w17.heap[gb336]? = some (.cells #[.int .i64 0, .int .i64 0, .slice none 0 0] 68 (0, 0))) := ⟨h1_⟩
     have n2_ : Aside0 (w.heap.size ≤ gb336) := ⟨h2_⟩
     have n3_ : Aside0 (w.heap.size ≤ gb336) := ⟨h3_⟩
     have n4_ : Aside0 (gb326 ≠ gb336) := ⟨h4_⟩
     have n5_ : Aside0 (gb336 ≠ gb326) := ⟨h5_⟩
     have n6_ : Aside0 (Below w.heap.size w w17) := ⟨h6_⟩
     clear BK326
     clear HB
     clear h0_ h1_ h2_ h3_ h4_ h5_ h6_
     have BK326 := n0_
     have BK336 := n1_
     have GW336 := n2_
     have GE336 := ge_ n3_.out
     have NB326_336 := nq_ n4_.out
     have NB336_326 := nq_ n5_.out
     have HB := n6_
     clear n0_ n1_ n2_ n3_ n4_ n5_ n6_
     have hHeld : w17.cell? ad327 = some (.int .u8 (rd l0 0)) := hS_
     refine norm_ (a' := ?_) ?_ ?_
     rotate_left
     ·simp only [putAll, Act.put, la_, lz_, ls_]
      rfl
     refine one_ (i := 6) (N := some 15) #[T_, T_, T_, T_, T_, T_, T_, T_, T_, F_, F_, T_, F_] rfl rfl (one_of HT_.out (by kernel_rfl)) (by decide) (fun K hK => ?_)
     refine Kd.R_lit_step (Kd.int .u8) _ 5 ?hg (N := 15) ?hd (xs := ([] : List Int)) (inner := []) (ok := fun _ => True) (okp := fun _ => True) ?hr ?hp (fun _ hk => hk) trivial (Below.refl _ _) (Nat.le_refl _) (by simp) ?_; (case hd => rfl); (case hg => rfl); (case hr => first | (go_simp; done) | (go_simp; rfl)); (case hp => exact (Reps.none _ _))
     intro v330 w18 ho19 hb hg_ hnew_
     clear hg_ hnew_
     (first | rw [← Ny329.out] at ho19 | (simp only [Int.reduceToNat] at ho19; rw [← Ny329.out] at ho19))
     have n0_ := mk_ (Kd.R_lower ho19 (below_size (us_ HB.out)))
     have n1_ := mk_ (blk_below (u_ BK326.out) hb)
     have n2_ := mk_ (blk_below (u_ BK336.out) hb)
     have n3_ := mk_ (below_step (us_ HB.out) hb)
     clear BK326
     clear BK336
     clear HB
     have HO331 := n0_
     have BK326 := n1_
     have BK336 := n2_
     have HB := n3_
     clear n0_ n1_ n2_ n3_
     clear hb ho19
     refine hK.out _ _ (((HB.out.cell (lc_ w _ hw327_0)).trans hw327_0)) (fun hHeld => ?_)
     clear hK K
     refine norm_ (a' := ?_) ?_ ?_
     rotate_left
     ·show Act.put _ (some 15) _ = _
      simp only [Act.put, la_, lz_, ls_, i64_w, i32_w]
      rfl
     exact norm_ (by first | (simp only [putAll, Act.put, la_, lz_, ls_]; done) | (simp only [putAll, Act.put, la_, lz_, ls_]; rfl)) (hJ5_6_11 (v330, gb336) _ ⟨hHeld, (Kd.ur_ HO331.out), (u_ BK326.out), (u_ BK336.out), GW336.out, GE336.out, NB326_336.out, NB336_326.out, (us_ HB.out)⟩)
    skip
    rintro v330 w18 ⟨hS_, h0_, h1_, h2_⟩
    have n0_ : Aside0 (Kd.R (Kd.int .u8) 5 w18 w.heap.size (fun _ => True) v330 y329) := ⟨h0_⟩
    have n1_ : Aside0 (w18.heap[gb326]? = some (.cells #[.int .i64 0, .int .i64 0, .slice none 0 0] 68 (0, 0))) := ⟨h1_⟩
    have n2_ : Aside0 (Below w.heap.size w w18) := ⟨h2_⟩
    clear BK326
    clear HB
    clear h0_ h1_ h2_
    have HO331 := n0_
    have BK326 := n1_
    have HB := n2_
    clear n0_ n1_ n2_
    have hHeld : w18.cell? ad327 = some (.int .u8 (rd l0 0)) := hS_
    refine norm_ (a' := ?_) ?_ ?_
    rotate_left
    ·simp only [putAll, Act.put, la_, lz_, ls_]
     rfl
    refine two_ (i := 9) (j := 11) (Ni := some 18) (Nj := some 4) #[T_, T_, T_, T_, T_, T_, T_, T_, T_, T_, F_, F_, F_] #[T_, T_, T_, T_, T_, T_, T_, T_, T_, F_, F_, T_, F_] rfl rfl rfl rfl (two_of HT_.out (by kernel_rfl)) (by decide) (by decide) (fun K hK => ?_) (fun K hK => ?_)
    ·skip
     refine Kd.R_append_rows_step (Kd.int .u8) (w0 := w) w.heap.size (by rfl) (.tmp 15) (.tmp 17) 22 5 (.int .u8 0) 1 rfl Try.underlying22 info5 rfl (by decide) (by omega) v330 y329 (l0.drop 4) _ _ _ (fun _ => True) (fun _ => False) rfl rfl ?aO ?aR (fun _ _ h => h) (fun _ h => h.elim) ?aF ?aB ?aS ?aL ?_
     (case aR => first | (have e_ := (Kd.C_below HR332.out HB.out); rw [show (l0.drop 4).length = (l0.length - 4) from List.length_drop] at e_; exact e_) | (rw [← show (l0.drop 4).length = (l0.length - 4) from List.length_drop]; repeat (first | exact (Kd.C_below HR332.out HB.out) | (with_reducible refine Kd.C_alloc ?_ _) | (with_reducible refine Kd.C_drewN ?_ _) | (with_reducible refine Kd.C_drew ?_))) | (repeat (first | exact (Kd.C_below HR332.out HB.out) | (with_reducible refine Kd.C_alloc ?_ _) | (with_reducible refine Kd.C_drewN ?_ _) | (with_reducible refine Kd.C_drew ?_))))
     (case aB => exact (us_ HB.out))
     (case aF => exact (fun _ _ => trivial))
     (case aO => exact (Kd.ur_ HO331.out))
     (case aS => exact (below_size (us_ HB.out)))
     (case aL => have := LMc8.out; have hlx_ := (show (l0.drop 4).length = (l0.length - 4) from List.length_drop); omega)
     intro v334 w19 ho hb hg hat
     rw [← Ny333.out] at ho
     have n0_ := mk_ (blk_grown (g := gb326) (o := .cells #[.int .i64 0, .int .i64 0, .slice none 0 0] 68 (0, 0)) (u_ BK326.out) hg (Kd.R_ne HO331.out BK326.out (by decide)))
     have n1_ := mk_ (hb)
     have n2_ := mk_ (ho)
     clear BK326
     clear HB
     clear HO331
     have BK326 := n0_
     have HB := n1_
     have HO335 := n2_
     clear n0_ n1_ n2_
     clear ho hb hg hat
     obtain ⟨Ao20, co20, eo20⟩ := Kd.R_slice HO335.out
     (first | subst eo20 | (injection eo20 with f1_ f2_ f3_; have f4_ := f1_.symm; have f5_ := f3_.symm; clear f1_ f2_ f3_; subst f4_; subst f5_))
     refine hK.out _ _ (((HB.out.cell (lc_ w _ hw327_0)).trans hw327_0)) (fun hHeld => ?_)
     clear hK K
     refine norm_ (a' := ?_) ?_ ?_
     rotate_left
     ·show Act.put _ (some 18) _ = _
      simp only [Act.put, la_, lz_, ls_, i64_w, i32_w]
      rfl
     refine pure_ (i := 10) (N := some 19) (v := ?_) (a' := ?_) #[T_, T_, T_, T_, T_, T_, T_, T_, T_, T_, T_, F_, F_] rfl rfl (any_of HT_.out (by kernel_rfl)) (fun _ _ _ h => h) (Or.inl ⟨by rfl, ?_⟩) ?_ ?_
     rotate_left
     ·intro w'
      go_simp
      with_reducible rfl
     rotate_left
     ·simp only [Act.put, la_, lz_, ls_, i64_w, i32_w]
      rfl
     exact norm_ (by first | (simp only [putAll, Act.put, la_, lz_, ls_]; done) | (simp only [putAll, Act.put, la_, lz_, ls_]; rfl)) (hJ5_6_9 (v330, .slice Ao20 y333.length co20) _ ⟨hHeld, (Kd.ur_ HO335.out), (u_ BK326.out), (us_ HB.out)⟩)
    skip
    refine box_step ?hg (N := 4) ?hd (cs := #[.int .i64 0, .int .i64 0, .slice none 0 0]) (t := 68) ?hr ?_; (case hd => rfl); (case hg => rfl); (case hr => first | (go_simp; done) | (go_simp; rfl))
    intro gb336 hg w19 hbox hb
    have n0_ := mk_ (Kd.R_below (Kd.ur_ HO331.out) hb)
    have n1_ := mk_ (blk_below (u_ BK326.out) hb)
    have n2_ := mk_ (below_step (us_ HB.out) hb)
    have n3_ := mk_ (hbox)
    have n4_ := mk_ ((by rw [hg]; exact (below_size (us_ HB.out)) : w.heap.size ≤ gb336))
    have n5_ := mk_ ((by rw [hg]; exact (below_size (us_ HB.out)) : w.heap.size ≤ gb336))
    have n6_ := mk_ ((by rw [hg]; exact Nat.ne_of_lt (blk_lt (u_ BK326.out)) : gb326 ≠ gb336))
    have n7_ := mk_ ((by rw [hg]; exact Nat.ne_of_gt (blk_lt (u_ BK326.out)) : gb336 ≠ gb326))
    clear HO331
    clear BK326
    clear HB
    have HO331 := n0_
    have BK326 := n1_
    have HB := n2_
    have BK336 := n3_
    have GW336 := n4_
    have GE336 := ge_ n5_.out
    have NB326_336 := nq_ n6_.out
    have NB336_326 := nq_ n7_.out
    clear n0_ n1_ n2_ n3_ n4_ n5_ n6_ n7_
    clear hb hbox hg
    refine hK.out _ _ (((HB.out.cell (lc_ w _ hw327_0)).trans hw327_0)) (fun hHeld => ?_)
    clear hK K
    refine norm_ (a' := ?_) ?_ ?_
    rotate_left
    ·show Act.put _ (some 4) _ = _
     simp only [Act.put, la_, lz_, ls_, i64_w, i32_w]
     rfl
    exact norm_ (by first | (simp only [putAll, Act.put, la_, lz_, ls_]; done) | (simp only [putAll, Act.put, la_, lz_, ls_]; rfl)) (hJ5_6_11 (v330, gb336) _ ⟨hHeld, (Kd.ur_ HO331.out), (u_ BK326.out), (u_ BK336.out), GW336.out, GE336.out, NB326_336.out, NB336_326.out, (us_ HB.out)⟩)
   skip
   rintro ⟨v330, gb336⟩ w19 ⟨hS_, h0_, h1_, h2_, h3_, h4_, h5_, h6_, h7_⟩
   have n0_ : Aside0 (Kd.R (Kd.int .u8) 5 w19 w.heap.size (fun _ => True) v330 y329) := ⟨h0_⟩
   have n1_ : Aside0 (w19.heap[gb326]? = some (.cells #[.int .i64 0, .int .i64 0, .slice none 0 0] 68 (0, 0))) := ⟨h1_⟩
   have n2_ : Aside0 (w19.heap[gb336]? = some (.cells #[.int .i64 0, .int .i64 0, .slice none 0 0] 68 (0, 0))) := ⟨h2_⟩
   have n3_ : Aside0 (w.heap.size ≤ gb336) := ⟨h3_⟩
   have n4_ : Aside0 (w.heap.size ≤ gb336) := ⟨h4_⟩
   have n5_ : Aside0 (gb326 ≠ gb336) := ⟨h5_⟩
   have n6_ : Aside0 (gb336 ≠ gb326) := ⟨h6_⟩
   have n7_ : Aside0 (Below w.heap.size w w19) := ⟨h7_⟩
   clear BK326
   clear HB
   clear h0_ h1_ h2_ h3_ h4_ h5_ h6_ h7_
   have HO331 := n0_
   have BK326 := n1_
   have BK336 := n2_
   have GW336 := n3_
   have GE336 := ge_ n4_.out
   have NB326_336 := nq_ n5_.out
   have NB336_326 := nq_ n6_.out
   have HB := n7_
   clear n0_ n1_ n2_ n3_ n4_ n5_ n6_ n7_
   have hHeld : w19.cell? ad327 = some (.int .u8 (rd l0 0)) := hS_
   refine norm_ (a' := ?_) ?_ ?_
   rotate_left
   ·simp only [putAll, Act.put, la_, lz_, ls_]
    rfl
   refine one_ (i := 9) (N := some 18) #[T_, T_, T_, T_, T_, T_, T_, T_, T_, T_, F_, T_, F_] rfl rfl (one_of HT_.out (by kernel_rfl)) (by decide) (fun K hK => ?_)
   refine Kd.R_append_rows_step (Kd.int .u8) (w0 := w) w.heap.size (by rfl) (.tmp 15) (.tmp 17) 22 5 (.int .u8 0) 1 rfl Try.underlying22 info5 rfl (by decide) (by omega) v330 y329 (l0.drop 4) _ _ _ (fun _ => True) (fun _ => False) rfl rfl ?aO ?aR (fun _ _ h => h) (fun _ h => h.elim) ?aF ?aB ?aS ?aL ?_
   (case aR => first | (have e_ := (Kd.C_below HR332.out HB.out); rw [show (l0.drop 4).length = (l0.length - 4) from List.length_drop] at e_; exact e_) | (rw [← show (l0.drop 4).length = (l0.length - 4) from List.length_drop]; repeat (first | exact (Kd.C_below HR332.out HB.out) | (with_reducible refine Kd.C_alloc ?_ _) | (with_reducible refine Kd.C_drewN ?_ _) | (with_reducible refine Kd.C_drew ?_))) | (repeat (first | exact (Kd.C_below HR332.out HB.out) | (with_reducible refine Kd.C_alloc ?_ _) | (with_reducible refine Kd.C_drewN ?_ _) | (with_reducible refine Kd.C_drew ?_))))
   (case aB => exact (us_ HB.out))
   (case aF => exact (fun _ _ => trivial))
   (case aO => exact (Kd.ur_ HO331.out))
   (case aS => exact (below_size (us_ HB.out)))
   (case aL => have := LMc8.out; have hlx_ := (show (l0.drop 4).length = (l0.length - 4) from List.length_drop); omega)
   intro v334 w20 ho hb hg hat
   rw [← Ny333.out] at ho
   have n0_ := mk_ (blk_grown (g := gb326) (o := .cells #[.int .i64 0, .int .i64 0, .slice none 0 0] 68 (0, 0)) (u_ BK326.out) hg (Kd.R_ne HO331.out BK326.out (by decide)))
   have n1_ := mk_ (blk_grown (g := gb336) (o := .cells #[.int .i64 0, .int .i64 0, .slice none 0 0] 68 (0, 0)) (u_ BK336.out) hg (Kd.R_ne HO331.out BK336.out (by decide)))
   have n2_ := mk_ (hb)
   have n3_ := mk_ (ho)
   clear BK326
   clear BK336
   clear HB
   clear HO331
   have BK326 := n0_
   have BK336 := n1_
   have HB := n2_
   have HO335 := n3_
   clear n0_ n1_ n2_ n3_
   clear ho hb hg hat
   obtain ⟨Ao21, co21, eo21⟩ := Kd.R_slice HO335.out
   (first | subst eo21 | (injection eo21 with f1_ f2_ f3_; have f4_ := f1_.symm; have f5_ := f3_.symm; clear f1_ f2_ f3_; subst f4_; subst f5_))
   refine hK.out _ _ (((HB.out.cell (lc_ w _ hw327_0)).trans hw327_0)) (fun hHeld => ?_)
   clear hK K
   refine norm_ (a' := ?_) ?_ ?_
   rotate_left
   ·show Act.put _ (some 18) _ = _
    simp only [Act.put, la_, lz_, ls_, i64_w, i32_w]
    rfl
   refine pure_ (i := 10) (N := some 19) (v := ?_) (a' := ?_) #[T_, T_, T_, T_, T_, T_, T_, T_, T_, T_, T_, T_, F_] rfl rfl (any_of HT_.out (by kernel_rfl)) (fun _ _ _ h => h) (Or.inl ⟨by rfl, ?_⟩) ?_ ?_
   rotate_left
   ·intro w'
    go_simp
    with_reducible rfl
   rotate_left
   ·simp only [Act.put, la_, lz_, ls_, i64_w, i32_w]
    rfl
   exact norm_ (by first | (simp only [putAll, Act.put, la_, lz_, ls_]; done) | (simp only [putAll, Act.put, la_, lz_, ls_]; rfl)) (hJ5_6_9_11 (v330, .slice Ao21 y333.length co21, gb336) _ ⟨hHeld, (Kd.ur_ HO335.out), (u_ BK326.out), (u_ BK336.out), GW336.out, GE336.out, NB326_336.out, NB336_326.out, (us_ HB.out)⟩)
  skip
  rintro ⟨v330, v334⟩ w20 ⟨hS_, h0_, h1_, h2_⟩
  have n0_ : Aside0 (Kd.R (Kd.int .u8) 5 w20 w.heap.size (fun _ => True) v334 y333) := ⟨h0_⟩
  have n1_ : Aside0 (w20.heap[gb326]? = some (.cells #[.int .i64 0, .int .i64 0, .slice none 0 0] 68 (0, 0))) := ⟨h1_⟩
  have n2_ : Aside0 (Below w.heap.size w w20) := ⟨h2_⟩
  clear BK326
  clear HB
  clear h0_ h1_ h2_
  have HO335 := n0_
  have BK326 := n1_
  have HB := n2_
  clear n0_ n1_ n2_
  have hHeld : w20.cell? ad327 = some (.int .u8 (rd l0 0)) := hS_
  obtain ⟨Ao21, co21, eo21⟩ := Kd.R_slice HO335.out
  (first | subst eo21 | (injection eo21 with f1_ f2_ f3_; have f4_ := f1_.symm; have f5_ := f3_.symm; clear f1_ f2_ f3_; subst f4_; subst f5_))
  refine norm_ (a' := ?_) ?_ ?_
  rotate_left
  ·simp only [putAll, Act.put, la_, lz_, ls_]
   rfl
  refine one_ (i := 11) (N := some 4) #[T_, T_, T_, T_, T_, T_, T_, T_, T_, T_, T_, T_, F_] rfl rfl (one_of HT_.out (by kernel_rfl)) (by decide) (fun K hK => ?_)
  refine box_step ?hg (N := 4) ?hd (cs := #[.int .i64 0, .int .i64 0, .slice none 0 0]) (t := 68) ?hr ?_; (case hd => rfl); (case hg => rfl); (case hr => first | (go_simp; done) | (go_simp; rfl))
  intro gb336 hg w22 hbox hb
  have n0_ := mk_ (Kd.R_below (Kd.ur_ HO335.out) hb)
  have n1_ := mk_ (blk_below (u_ BK326.out) hb)
  have n2_ := mk_ (below_step (us_ HB.out) hb)
  have n3_ := mk_ (hbox)
  have n4_ := mk_ ((by rw [hg]; exact (below_size (us_ HB.out)) : w.heap.size ≤ gb336))
  have n5_ := mk_ ((by rw [hg]; exact (below_size (us_ HB.out)) : w.heap.size ≤ gb336))
  have n6_ := mk_ ((by rw [hg]; exact Nat.ne_of_lt (blk_lt (u_ BK326.out)) : gb326 ≠ gb336))
  have n7_ := mk_ ((by rw [hg]; exact Nat.ne_of_gt (blk_lt (u_ BK326.out)) : gb336 ≠ gb326))
  clear HO335
  clear BK326
  clear HB
  have HO335 := n0_
  have BK326 := n1_
  have HB := n2_
  have BK336 := n3_
  have GW336 := n4_
  have GE336 := ge_ n5_.out
  have NB326_336 := nq_ n6_.out
  have NB336_326 := nq_ n7_.out
  clear n0_ n1_ n2_ n3_ n4_ n5_ n6_ n7_
  clear hb hbox hg
  refine hK.out _ _ (((HB.out.cell (lc_ w _ hw327_0)).trans hw327_0)) (fun hHeld => ?_)
  clear hK K
  refine norm_ (a' := ?_) ?_ ?_
  rotate_left
  ·show Act.put _ (some 4) _ = _
   simp only [Act.put, la_, lz_, ls_, i64_w, i32_w]
   rfl
  exact norm_ (by first | (simp only [putAll, Act.put, la_, lz_, ls_]; done) | (simp only [putAll, Act.put, la_, lz_, ls_]; rfl)) (hJ5_6_9_11 (v330, .slice Ao21 y333.length co21, gb336) _ ⟨hHeld, (Kd.ur_ HO335.out), (u_ BK326.out), (u_ BK336.out), GW336.out, GE336.out, NB326_336.out, NB336_326.out, (us_ HB.out)⟩)
 rintro ⟨v330, v334, gb336⟩ w21 ⟨hS_, h0_, h1_, h2_, h3_, h4_, h5_, h6_, h7_⟩
 have n0_ : Aside0 (Kd.R (Kd.int .u8) 5 w21 w.heap.size (fun _ => True) v334 y333) := ⟨h0_⟩
 have n1_ : Aside0 (w21.heap[gb326]? = some (.cells #[.int .i64 0, .int .i64 0, .slice none 0 0] 68 (0, 0))) := ⟨h1_⟩
 have n2_ : Aside0 (w21.heap[gb336]? = some (.cells #[.int .i64 0, .int .i64 0, .slice none 0 0] 68 (0, 0))) := ⟨h2_⟩
 have n3_ : Aside0 (w.heap.size ≤ gb336) := ⟨h3_⟩
 have n4_ : Aside0 (w.heap.size ≤ gb336) := ⟨h4_⟩
 have n5_ : Aside0 (gb326 ≠ gb336) := ⟨h5_⟩
 have n6_ : Aside0 (gb336 ≠ gb326) := ⟨h6_⟩
 have n7_ : Aside0 (Below w.heap.size w w21) := ⟨h7_⟩
 clear BK326
 clear HB
 clear h0_ h1_ h2_ h3_ h4_ h5_ h6_ h7_
 have HO335 := n0_
 have BK326 := n1_
 have BK336 := n2_
 have GW336 := n3_
 have GE336 := ge_ n4_.out
 have NB326_336 := nq_ n5_.out
 have NB336_326 := nq_ n6_.out
 have HB := n7_
 clear n0_ n1_ n2_ n3_ n4_ n5_ n6_ n7_
 have hHeld : w21.cell? ad327 = some (.int .u8 (rd l0 0)) := hS_
 obtain ⟨Ao22, co22, eo22⟩ := Kd.R_slice HO335.out
 (first | subst eo22 | (injection eo22 with f1_ f2_ f3_; have f4_ := f1_.symm; have f5_ := f3_.symm; clear f1_ f2_ f3_; subst f4_; subst f5_))
 refine norm_ (a' := ?_) ?_ ?_
 rotate_left
 ·simp only [putAll, Act.put, la_, lz_, ls_]
  rfl
 refine one_ (i := 12) (N := none) #[T_, T_, T_, T_, T_, T_, T_, T_, T_, T_, T_, T_, T_] rfl rfl (one_of HT_.out (by kernel_rfl)) (by decide) (fun K hK => ?_)
 have hs23 : w21.cell? ⟨gb336, 0, none⟩ = some (.int .i64 0) := (blk_cell BK336.out 0).trans rfl
 have hfs23 := blk_frozen BK336.out 0
 have hns23_0 := NB326_336.out
 have hms23_0 := NB336_326.out
 have hs24 : w21.cell? ⟨gb336, 1, none⟩ = some (.int .i64 0) := (blk_cell BK336.out 1).trans rfl
 have hfs24 := blk_frozen BK336.out 1
 have hns24_0 := NB326_336.out
 have hms24_0 := NB336_326.out
 have hs25 : w21.cell? ⟨gb336, 2, none⟩ = some (.slice none 0 0) := (blk_cell BK336.out 2).trans rfl
 have hfs25 := blk_frozen BK336.out 2
 have hns25_0 := NB326_336.out
 have hms25_0 := NB336_326.out
 refine skip_ (w1 := ?_) (by rfl) rfl ?_ ?_
 rotate_left
 ·go_simp
  rfl
 refine hK.out _ _ (((cell_far (p := ⟨gb336, _, none⟩) (by first | exact (ne1_ (by have := lc_ _ _ hw327_0; first | rwa [add_block] at this | exact this) GW336.out) | (rw [add_block]; exact (ne1_ (by have := lc_ _ _ hw327_0; first | rwa [add_block] at this | exact this) GW336.out)) | (show (Addr.add _ _).block ≠ _; rw [add_block]; exact (ne1_ (by have := lc_ _ _ hw327_0; first | rwa [add_block] at this | exact this) GW336.out)) | (dsimp only; exact (ne1_ (by have := lc_ _ _ hw327_0; first | rwa [add_block] at this | exact this) GW336.out))) _).trans (((cell_far (p := ⟨gb336, _, none⟩) (by first | exact (ne1_ (by have := lc_ _ _ hw327_0; first | rwa [add_block] at this | exact this) GW336.out) | (rw [add_block]; exact (ne1_ (by have := lc_ _ _ hw327_0; first | rwa [add_block] at this | exact this) GW336.out)) | (show (Addr.add _ _).block ≠ _; rw [add_block]; exact (ne1_ (by have := lc_ _ _ hw327_0; first | rwa [add_block] at this | exact this) GW336.out)) | (dsimp only; exact (ne1_ (by have := lc_ _ _ hw327_0; first | rwa [add_block] at this | exact this) GW336.out))) _).trans (((cell_far (p := ⟨gb336, _, none⟩) (by first | exact (ne1_ (by have := lc_ _ _ hw327_0; first | rwa [add_block] at this | exact this) GW336.out) | (rw [add_block]; exact (ne1_ (by have := lc_ _ _ hw327_0; first | rwa [add_block] at this | exact this) GW336.out)) | (show (Addr.add _ _).block ≠ _; rw [add_block]; exact (ne1_ (by have := lc_ _ _ hw327_0; first | rwa [add_block] at this | exact this) GW336.out)) | (dsimp only; exact (ne1_ (by have := lc_ _ _ hw327_0; first | rwa [add_block] at this | exact this) GW336.out))) _).trans (hHeld))))))) (fun hHeld => ?_)
 clear hK K
 refine done_ (done_of HT_.out (by kernel_rfl)) ?_
 try go_wp2
 have n0_ : Aside0 (Kd.R (Kd.int .u8) 5 (((w21.setCell ⟨gb336, 0, none⟩ (.int .i64 (wrap64 (rd l0 0)))).setCell ⟨gb336, 1, none⟩ (.int .i64 t328)).setCell ⟨gb336, 2, none⟩ (.slice Ao22 y333.length co22)) w.heap.size (fun _ => True) (.slice Ao22 y333.length co22) y333) := ⟨by (with_reducible repeat (first | apply Kd.R_alloc | apply Kd.R_drewN | apply Kd.R_drew)); exact Kd.R_mono (Kd.R_far (p := ⟨gb336, 2, none⟩) (Kd.R_far (p := ⟨gb336, 1, none⟩) (Kd.R_far (p := ⟨gb336, 0, none⟩) (Kd.R_types HO335.out BK336.out (by decide)) (fun _ hk => hk.2) (.int .i64 (wrap64 (rd l0 0)))) (fun _ hk => hk.2) (.int .i64 t328)) (fun _ hk => hk.2) (.slice Ao22 y333.length co22)) (fun _ hk => trivial)⟩
 have n1_ : Aside0 ((((w21.setCell ⟨gb336, 0, none⟩ (.int .i64 (wrap64 (rd l0 0)))).setCell ⟨gb336, 1, none⟩ (.int .i64 t328)).setCell ⟨gb336, 2, none⟩ (.slice Ao22 y333.length co22)).heap[gb326]? = some (.cells #[.int .i64 0, .int .i64 0, .slice none 0 0] 68 (0, 0))) := ⟨uf_ BK326.out⟩
 have n2_ : Aside0 ((((w21.setCell ⟨gb336, 0, none⟩ (.int .i64 (wrap64 (rd l0 0)))).setCell ⟨gb336, 1, none⟩ (.int .i64 t328)).setCell ⟨gb336, 2, none⟩ (.slice Ao22 y333.length co22)).heap[gb336]? = some (.cells #[.int .i64 (wrap64 (rd l0 0)), .int .i64 t328, .slice Ao22 y333.length co22] 68 (0, 0))) := ⟨by (with_reducible repeat (first | refine bn_ ?_ _ | refine bw_ ?_ | refine ba_ ?_ _)); refine blk_put (cs := #[.int .i64 (wrap64 (rd l0 0)), .int .i64 t328, .slice none 0 0]) ?_ 2 _ rfl; (with_reducible repeat (first | refine bn_ ?_ _ | refine bw_ ?_ | refine ba_ ?_ _)); refine blk_put (cs := #[.int .i64 (wrap64 (rd l0 0)), .int .i64 0, .slice none 0 0]) ?_ 1 _ rfl; (with_reducible repeat (first | refine bn_ ?_ _ | refine bw_ ?_ | refine ba_ ?_ _)); refine blk_put (cs := #[.int .i64 0, .int .i64 0, .slice none 0 0]) ?_ 0 _ rfl; (with_reducible repeat (first | refine bn_ ?_ _ | refine bw_ ?_ | refine ba_ ?_ _)); exact BK336.out⟩
 have n3_ : Aside0 (Below w.heap.size w (((w21.setCell ⟨gb336, 0, none⟩ (.int .i64 (wrap64 (rd l0 0)))).setCell ⟨gb336, 1, none⟩ (.int .i64 t328)).setCell ⟨gb336, 2, none⟩ (.slice Ao22 y333.length co22))) := ⟨us_ HB.out⟩
 (try clear HO335)
 (try clear BK326)
 (try clear BK336)
 (try clear HB)
 generalize (((w21.setCell ⟨gb336, 0, none⟩ (.int .i64 (wrap64 (rd l0 0)))).setCell ⟨gb336, 1, none⟩ (.int .i64 t328)).setCell ⟨gb336, 2, none⟩ (.slice Ao22 y333.length co22)) = w26 at n0_ n1_ n2_ n3_ ⊢
 have HO335 := n0_
 have BK326 := n1_
 have BK336 := n2_
 have HB := n3_
 clear n0_ n1_ n2_ n3_
 have n0_ := mk_ (Kd.R_drew HO335.out)
 have n1_ := mk_ (blk_drew BK326.out)
 have n2_ := mk_ (blk_drew BK336.out)
 have n3_ := mk_ (below_drew1 HB.out)
 clear HO335
 clear BK326
 clear BK336
 clear HB
 have HO335 := n0_
 have BK326 := n1_
 have BK336 := n2_
 have HB := n3_
 clear n0_ n1_ n2_ n3_
 have p338 : 0 ≤ (3 : Int) := (by omega)
 have q338 : 3 < (l0.length : Int) := of_decide_eq_true (by first | (with_reducible assumption) | assumption)
 obtain ⟨ad338, e338, hx338_0⟩ := Kd.at_int HR0.out 3 p338 q338
 have hw338_0 := hx338_0
 (try rw [show ((3 : Int)).toNat = 3 from rfl] at hw338_0)
 (try rw [show 3 * 1 = 3 from rfl] at hw338_0)
 (try simp only [Nat.reduceMul, Nat.reduceEqDiff, Go.Addr.add, ↓reduceIte] at hw338_0)
 obtain rfl : ad327 = ad338 := (by injection e338)
 (try simp only [show (3 : Int).toNat = 3 from rfl, Nat.reduceMul, Nat.reduceEqDiff, Go.Addr.add, ↓reduceIte] at hx338_0)
 have qi338 : (3 < l0.length) = True := eq_true (by omega)
 (try rw [show ((3 : Int)).toNat = 3 from rfl] at hx338_0)
 replace hx338_0 := (HB.out.cell (lc_ w _ hx338_0)).trans hx338_0
 replace p338 := eq_true p338
 replace q338 := eq_true q338
 refine start_ (n := 13) (S := fun w' => w'.cell? ⟨gb336, 0, none⟩ = some (.int .i64 (wrap64 (rd l0 0))) ∧ w'.cell? ⟨gb336, 1, none⟩ = some (.int .i64 t328) ∧ w'.cell? ⟨gb336, 2, none⟩ = some (.slice Ao22 y333.length co22) ∧ w'.cell? ⟨ad327.block, ad327.off + 3, none⟩ = some (.int .u8 (rd l0 3))) (ds := []) #[F_, F_, F_, F_, F_, F_, F_, F_, F_, F_, F_, F_, F_] (by kernel_rfl) rfl rfl ⟨(blk_cell BK336.out 0).trans rfl, (blk_cell BK336.out 1).trans rfl, (blk_cell BK336.out 2).trans rfl, ((HB.out.cell (lc_ w _ hw338_0)).trans hw338_0)⟩ (fun hHeld => ?_); refine with_tabW spec_NoteFrom.tab4 spec_NoteFrom.bits4 (fun HT_ HW_ => ?_)
 generalize w26.drew = w27 at HO335 BK326 BK336 HB hx338_0 hHeld ⊢
 refine take_ (i := 0) (N := some 20) (v := ?_) (a' := ?_) #[T_, F_, F_, F_, F_, F_, F_, F_, F_, F_, F_, F_, F_] rfl rfl (take_ofW HT_.out HW_.out (by kernel_rfl)) (fun _ _ _ h => h) (Or.inl ⟨by rfl, ?_⟩) hHeld ?_ ?_
 rotate_left
 ·rintro w' ⟨s0, s1, s2, s3⟩
  go_simp
  with_reducible rfl
 rotate_left
 ·simp only [Act.put, la_, lz_, ls_, i64_w, i32_w]
  rfl
 refine one_ (i := 1) (N := some 21) #[T_, T_, F_, F_, F_, F_, F_, F_, F_, F_, F_, F_, F_] rfl rfl (one_of HT_.out (by kernel_rfl)) (by decide) (fun K hK => ?_)
 refine goes_ Try.func82 (by kernel_rfl) rfl #[.agg #[.int .i64 (wrap64 (rd l0 0)), .int .i64 t328, .slice Ao22 y333.length co22]] (by rfl) rfl rfl (by (try simp only [lm_, lo_, ln_]); first | done | rfl | (simp only [List.length_drop, List.length_take]; rfl)) ?_
 with_reducible refine (spec_NoteOk.calls (wrap64 (rd l0 0)) t328 _ _ y333 true _ ?side1 ?side2 A9.out).mono ?_
 (case side1 => repeat (first | exact (Kd.R_reads' HO335.out).2.2 | (with_reducible refine Kd.C_alloc ?_ _) | (with_reducible refine Kd.C_drewN ?_ _) | (with_reducible refine Kd.C_drew ?_)))
 (case side2 => exact (Kd.R_reads' HO335.out).2.1)
 rintro e w28 ⟨rfl, hb⟩
 refine ⟨_, rfl, ?_⟩
 have n0_ := mk_ (Kd.R_below (Kd.ur_ HO335.out) hb)
 have n1_ := mk_ (blk_below (u_ BK326.out) hb)
 have n2_ := mk_ (blk_below (u_ BK336.out) hb)
 have n3_ := mk_ (below_step (us_ HB.out) hb)
 clear HO335
 clear BK326
 clear BK336
 clear HB
 have HO335 := n0_
 have BK326 := n1_
 have BK336 := n2_
 have HB := n3_
 clear n0_ n1_ n2_ n3_
 (try clear hb)
 (try clear hb2)
 (try clear hk)
 (try clear hi)
 refine hK.out _ _ ⟨(blk_cell BK336.out 0).trans rfl, (blk_cell BK336.out 1).trans rfl, (blk_cell BK336.out 2).trans rfl, ((HB.out.cell (lc_ w _ hw338_0)).trans hw338_0)⟩ (fun hHeld => ?_)
 clear hK K
 refine norm_ (a' := ?_) ?_ ?_
 rotate_left
 ·show Act.put _ (some 21) _ = _
  simp only [Act.put, la_, lz_, ls_, i64_w, i32_w]
  rfl
 refine pure_ (i := 2) (N := some 22) (v := ?_) (a' := ?_) #[T_, T_, T_, F_, F_, F_, F_, F_, F_, F_, F_, F_, F_] rfl rfl (any_of HT_.out (by kernel_rfl)) (fun _ _ _ h => h) (Or.inl ⟨by rfl, ?_⟩) ?_ ?_
 rotate_left
 ·intro w'
  go_simp
  with_reducible rfl
 rotate_left
 ·simp only [Act.put, la_, lz_, ls_, i64_w, i32_w]
  rfl
 refine pure_ (i := 3) (N := some 23) (v := ?_) (a' := ?_) #[T_, T_, T_, T_, F_, F_, F_, F_, F_, F_, F_, F_, F_] rfl rfl (any_of HT_.out (by kernel_rfl)) (fun _ _ _ h => h) (Or.inl ⟨by rfl, ?_⟩) ?_ ?_
 rotate_left
 ·intro w'
  go_simp
  with_reducible rfl
 rotate_left
 ·simp only [Act.put, la_, lz_, ls_, i64_w, i32_w]
  rfl
 refine pure_ (i := 4) (N := some 24) (v := ?_) (a' := ?_) #[T_, T_, T_, T_, T_, F_, F_, F_, F_, F_, F_, F_, F_] rfl rfl (any_of HT_.out (by kernel_rfl)) (fun _ _ _ h => h) (Or.inl ⟨by rfl, ?_⟩) ?_ ?_
 rotate_left
 ·intro w'
  go_simp
  with_reducible rfl
 rotate_left
 ·simp only [Act.put, la_, lz_, ls_, i64_w, i32_w]
  rfl
 refine pure_ (i := 5) (N := some 25) (v := ?_) (a' := ?_) #[T_, T_, T_, T_, T_, T_, F_, F_, F_, F_, F_, F_, F_] rfl rfl (any_of HT_.out (by kernel_rfl)) (fun _ _ _ h => h) (Or.inl ⟨by rfl, ?_⟩) ?_ ?_
 rotate_left
 ·intro w'
  go_simp
  with_reducible rfl
 rotate_left
 ·simp only [Act.put, la_, lz_, ls_, i64_w, i32_w]
  rfl
 refine pure_ (i := 8) (N := some 28) (v := ?_) (a' := ?_) #[T_, T_, T_, T_, T_, T_, F_, F_, T_, F_, F_, F_, F_] rfl rfl (any_of HT_.out (by kernel_rfl)) (fun _ _ _ h => h) (Or.inl ⟨by rfl, ?_⟩) ?_ ?_
 rotate_left
 ·intro w'
  go_simp
  with_reducible rfl
 rotate_left
 ·simp only [Act.put, la_, lz_, ls_, i64_w, i32_w]
  rfl
 refine take_ (i := 6) (N := some 26) (v := ?_) (a' := ?_) #[T_, T_, T_, T_, T_, T_, T_, F_, T_, F_, F_, F_, F_] rfl rfl (take_ofW HT_.out HW_.out (by kernel_rfl)) (fun _ _ _ h => h) (Or.inl ⟨by rfl, ?_⟩) hHeld ?_ ?_
 rotate_left
 ·rintro w' ⟨s0, s1, s2, s3⟩
  go_simp
  with_reducible rfl
 rotate_left
 ·simp only [Act.put, la_, lz_, ls_, i64_w, i32_w]
  rfl
 refine pure_ (i := 7) (N := some 27) (v := ?_) (a' := ?_) #[T_, T_, T_, T_, T_, T_, T_, T_, T_, F_, F_, F_, F_] rfl rfl (any_of HT_.out (by kernel_rfl)) (fun _ _ _ h => h) (Or.inl ⟨by rfl, ?_⟩) ?_ ?_
 rotate_left
 ·intro w'
  go_simp
  with_reducible rfl
 rotate_left
 ·simp only [Act.put, la_, lz_, ls_, i64_w, i32_w]
  rfl
 refine take_ (i := 9) (N := some 29) (v := ?_) (a' := ?_) #[T_, T_, T_, T_, T_, T_, T_, T_, T_, T_, F_, F_, F_] rfl rfl (take_ofW HT_.out HW_.out (by kernel_rfl)) (fun _ _ _ h => h) (Or.inl ⟨by rfl, ?_⟩) hHeld ?_ ?_
 rotate_left
 ·rintro w' ⟨s0, s1, s2, s3⟩
  go_simp
  with_reducible rfl
 rotate_left
 ·simp only [Act.put, la_, lz_, ls_, i64_w, i32_w]
  rfl
 refine pure_ (i := 10) (N := some 30) (v := ?_) (a' := ?_) #[T_, T_, T_, T_, T_, T_, T_, T_, T_, T_, T_, F_, F_] rfl rfl (any_of HT_.out (by kernel_rfl)) (fun _ _ _ h => h) (Or.inl ⟨by rfl, ?_⟩) ?_ ?_
 rotate_left
 ·intro w'
  go_simp
  with_reducible rfl
 rotate_left
 ·simp only [Act.put, la_, lz_, ls_, i64_w, i32_w]
  rfl
 refine pure_ (i := 11) (N := some 31) (v := ?_) (a' := ?_) #[T_, T_, T_, T_, T_, T_, T_, T_, T_, T_, T_, T_, F_] rfl rfl (any_of HT_.out (by kernel_rfl)) (fun _ _ _ h => h) (Or.inl ⟨by rfl, ?_⟩) ?_ ?_
 rotate_left
 ·intro w'
  go_simp
  with_reducible rfl
 rotate_left
 ·simp only [Act.put, la_, lz_, ls_, i64_w, i32_w]
  rfl
 refine pure_ (i := 12) (N := some 32) (v := ?_) (a' := ?_) #[T_, T_, T_, T_, T_, T_, T_, T_, T_, T_, T_, T_, T_] rfl rfl (any_of HT_.out (by kernel_rfl)) (fun _ _ _ h => h) (Or.inl ⟨by rfl, ?_⟩) ?_ ?_
 rotate_left
 ·intro w'
  go_simp
  with_reducible rfl
 rotate_left
 ·simp only [Act.put, la_, lz_, ls_, i64_w, i32_w]
  rfl
 refine done_ (done_of HT_.out (by kernel_rfl)) ?_
 have hnb29 := NB336_326.out
 have hnc29 := NB326_336.out
 obtain ⟨hcz30_0, hcz30_1, hcz30_2, hfz30_0, hfz30_1, hfz30_2⟩ := cells3_ BK336.out
 obtain ⟨hcz31_0, hcz31_1, hcz31_2, hfz31_0, hfz31_1, hfz31_2⟩ := cells3_ BK326.out
 try go_wp2
 refine bodyPost_ret (results_ct rfl _ _ gb326 68 #[.int .i64 (wrap64 (rd l0 0)), .int .i64 t328, .slice Ao22 y333.length co22] (0, 0) _ rfl (by (with_reducible repeat (first | refine bn_ ?_ _ | refine bw_ ?_ | refine ba_ ?_ _)); refine blk_put (cs := #[.int .i64 (wrap64 (rd l0 0)), .int .i64 t328, .slice none 0 0]) ?_ 2 _ rfl; (with_reducible repeat (first | refine bn_ ?_ _ | refine bw_ ?_ | refine ba_ ?_ _)); refine blk_put (cs := #[.int .i64 (wrap64 (rd l0 0)), .int .i64 0, .slice none 0 0]) ?_ 1 _ rfl; (with_reducible repeat (first | refine bn_ ?_ _ | refine bw_ ?_ | refine ba_ ?_ _)); refine blk_put (cs := #[.int .i64 0, .int .i64 0, .slice none 0 0]) ?_ 0 _ rfl; (with_reducible repeat (first | refine bn_ ?_ _ | refine bw_ ?_ | refine ba_ ?_ _)); exact BK326.out) Try.underlying68 rfl (by kernel_rfl)) rfl ?_
 exact ⟨_, by first | rfl | (simp [errW_none, errW_some] <;> rfl) | (simp [*, errW_none, errW_some] <;> rfl), by (with_reducible repeat (first | apply Kd.R_alloc | apply Kd.R_drewN | apply Kd.R_drew)); exact Kd.R_mono (Kd.R_far (p := ⟨gb326, 2, none⟩) (Kd.R_far (p := ⟨gb326, 1, none⟩) (Kd.R_far (p := ⟨gb326, 0, none⟩) (Kd.R_types HO335.out BK326.out (by decide)) (fun _ hk => hk.2) (.int .i64 (wrap64 (rd l0 0)))) (fun _ hk => hk.2) (.int .i64 t328)) (fun _ hk => hk.2) (.slice Ao22 y333.length co22)) (fun _ hk => trivial), us_ HB.out⟩

end Go.Proofs.Ytfcocnhkimbpbab.MFnNoteFault
