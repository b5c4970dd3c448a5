/- Functions that the law FnExactPortHear reaches, each with the proof that the machine's call comes to just its answer; no conditions but those that each theorem states. Printed by a program of this session over the kit's print. -/
import Derived.Test.YtkkibccnpkbbjaaMFnExactPortHearx0
import Derived.Test.YtkkibccnpkbbjaaMFnExactPortHearx9
import Derived.Test.YtkkibccnpkbbjaaMFnExactPortHearx10
import Derived.Test.YtkkibccnpkbbjaaMFnExactPortHearx11
namespace Go.Proofs.Ytkkibccnpkbbjaa.MFnExactPortHear
open Go.RowKit Go.Proofs.YtkkibccnpkbbjaaV.PrintWords Go.Proofs.YtkkibccnpkbbjaaV.PrintLast Go.Proofs.YtkkibccnpkbbjaaV.PrintMore
attribute [local go_sem] max2_int min2_int max_two min_two max_three min_three max_four min_four   -- for this text's walks alone
set_option linter.unusedVariables false
set_option linter.unusedSimpArgs false

/-! ### impl_MailFrom: function 38 -/
def impl_MailFrom.f (k : Nat) (a0 : Int) (a1 : Int) (l2 : List Int) : Option (Int × Int × Int × List Int × Bool) := if (l2.length : Int) < 5 then (some (0, 0, 0, ([] : List Int), false)) else (if 0 < (l2.length : Int) then (if 1 < (l2.length : Int) then (if 3 ≤ (wrap64 ((l2.length : Int) - 2)) then (if (wrap64 ((l2.length : Int) - 2)) ≤ (l2.length : Int) then ((impl_clone_byte.f ((l2.take ((wrap64 ((l2.length : Int) - 2)) : Int).toNat).drop 3)).bind fun t349 => ((impl_MailBytes.f k a0 (wrap64 (rd l2 0)) (wrap64 (rd l2 1)) t349 a1).bind fun t353 => ((slices_Equal_byte_byte.f k t353 l2).bind fun t356 => (if t356 = true then (some (a0, wrap64 (rd l2 0), wrap64 (rd l2 1), t349, true)) else (some (0, 0, 0, ([] : List Int), false)))))) else (none)) else (none)) else (none)) else (none))
theorem impl_MailFrom.mono : ∀ a0 a1 a2 k, LeO (impl_MailFrom.f k a0 a1 a2) (impl_MailFrom.f (k + 1) a0 a1 a2) := by
 intro a0 a1 a2 k
 unfold impl_MailFrom.f
 repeat' first
   | (with_reducible exact impl_MailBytes.mono _ _ _ _ _ _)
   | (with_reducible exact slices_Equal_byte_byte.mono _ _ _)
   | (with_reducible exact LeO.refl _)
   | (with_reducible exact LeO.none _)
   | (with_reducible refine LeO.ite ?_ ?_)
   | (with_reducible refine LeO.bind ?_ (fun _ => ?_))
   | exact impl_MailBytes.mono _ _ _ _ _ _
   | exact slices_Equal_byte_byte.mono _ _ _
   | exact LeO.none _
   | refine LeO.ite ?_ ?_
   | refine LeO.bind ?_ (fun _ => ?_)
def impl_MailFrom.T3 : Bool × List (List Nat × List Nat) := (true, [([], []), ([], []), ([1], [1]), ([2], [2]), ([3], [3]), ([], []), ([5], [5]), ([6], [6]), ([7], [7]), ([], []), ([], []), ([10], [10]), ([11], [11]), ([9, 12], [9, 12]), ([13], [13]), ([0, 4, 8, 14], [0, 4, 8, 14]), ([], []), ([16, 15, 14, 0, 1, 2, 3, 4, 5, 6, 7, 8, 9, 10, 11, 12, 13, 14, 15, 16], [15, 16])])
def impl_MailFrom.B3 : List Nat := [0, 0, 2, 6, 14, 0, 32, 96, 224, 0, 0, 1024, 3072, 7680, 15872, 32767, 0, 131071]
theorem impl_MailFrom.tab3 : rtab .any (opsOf Try.f38 3) = impl_MailFrom.T3 := by kernel_rfl
theorem impl_MailFrom.bits3 : waitsOk impl_MailFrom.T3.2 impl_MailFrom.B3 = true := by kernel_rfl
set_option maxHeartbeats 8000000 in
set_option maxRecDepth 100000 in
theorem impl_MailFrom.calls (k : Nat) (a0 : Int) (a1 : Int) (A2 : Option Addr) (c2 : Nat) (l2 : List Int) (r1 : Int) (r2 : Int) (r3 : Int) (r4 : List Int) (r5 : Bool) (w : World) (hr2 : Kd.C (Kd.int .u8) w A2 l2.length l2) (hc2 : l2.length ≤ c2) (h : impl_MailFrom.f k a0 a1 l2 = some (r1, r2, r3, r4, r5)) :
  Calls Try.prog 38 #[.int .i64 a0, .int .i64 a1, .slice A2 l2.length c2] w fun e w' => ∃ v3_ : Value, e = .returned (.tuple #[.agg #[.int .i64 r1, .int .i64 r2, .int .i64 r3, v3_], .bool r5]) ∧ Kd.R (Kd.int .u8) 5 w' w.heap.size (fun _ => True) v3_ r4 ∧ Below w.heap.size w w' := by
 have hu40 := Try.underlying40
 have HR2 := mk_ hr2
 have HC2 := mk_ hc2
 clear hr2 hc2
 have HB := mk_ (Below.refl w.heap.size w)
 have H := h
 unfold impl_MailFrom.f at H
 clear h
 by_cases c4 : (l2.length : Int) < 5
 focus
  rw [if_pos c4] at H
  have c4b0 : decide ((l2.length : Int) < 5) = true := decide_eq_true c4
  have c4b1 : decide (l2.length < 5) = true := decide_eq_true (by omega)
  clear c4
  simp only [Option.some.injEq, Prod.mk.injEq] at H
  obtain ⟨rfl, rfl, rfl, rfl, rfl⟩ := H
 rotate_left
 focus
  rw [if_neg c4] at H
  have c4b0 : decide ((l2.length : Int) < 5) = false := decide_eq_false c4
  have c4b1 : decide (l2.length < 5) = false := decide_eq_false (by omega)
  clear c4
  by_cases c7 : 0 < (l2.length : Int)
  rotate_left
  ·rw [if_neg c7] at H
   exact absurd H (by simp)
  rw [if_pos c7] at H
  have c7b0 : decide (0 < (l2.length : Int)) = true := decide_eq_true c7
  have c7b1 : decide (0 < l2.length) = true := decide_eq_true (by omega)
  clear c7
  by_cases c8 : 1 < (l2.length : Int)
  rotate_left
  ·rw [if_neg c8] at H
   exact absurd H (by simp)
  rw [if_pos c8] at H
  have c8b0 : decide (1 < (l2.length : Int)) = true := decide_eq_true c8
  have c8b1 : decide (1 < l2.length) = true := decide_eq_true (by omega)
  clear c8
  by_cases c9 : 3 ≤ (wrap64 ((l2.length : Int) - 2))
  rotate_left
  ·rw [if_neg c9] at H
   exact absurd H (by simp)
  rw [if_pos c9] at H
  have c9b0 := eq_true c9
  have c9b1 : decide (3 ≤ (wrap64 ((l2.length : Int) - 2))) = true := decide_eq_true c9
  clear c9
  by_cases c10 : (wrap64 ((l2.length : Int) - 2)) ≤ (l2.length : Int)
  rotate_left
  ·rw [if_neg c10] at H
   exact absurd H (by simp)
  rw [if_pos c10] at H
  have c10b0 := eq_true c10
  have c10b1 : decide ((wrap64 ((l2.length : Int) - 2)) ≤ (l2.length : Int)) = true := decide_eq_true c10
  clear c10
  replace H := Option.bind_eq_some_iff.mp H
  obtain ⟨t349, A110, H⟩ := H
  (try dsimp only at H)
  have A11 := mk_ A110
  clear A110
  replace H := Option.bind_eq_some_iff.mp H
  obtain ⟨t353, A120, H⟩ := H
  (try dsimp only at H)
  have A12 := mk_ A120
  clear A120
  replace H := Option.bind_eq_some_iff.mp H
  obtain ⟨t356, A130, H⟩ := H
  (try dsimp only at H)
  have A13 := mk_ A130
  clear A130
  by_cases c14 : t356 = true
  focus
   subst c14
   rw [if_pos rfl] at H
   simp only [Option.some.injEq, Prod.mk.injEq] at H
   obtain ⟨rfl, rfl, rfl, rfl, rfl⟩ := H
  rotate_left
  focus
   replace c14 := Bool.eq_false_iff.mpr c14
   subst c14
   rw [if_neg (show ¬ (false = true) by decide)] at H
   simp only [Option.some.injEq, Prod.mk.injEq] at H
   obtain ⟨rfl, rfl, rfl, rfl, rfl⟩ := H
  rotate_left
 rotate_left 2
 all_goals
  go_enter Try.func38, Try.ntmps38
  try go_wp2_with (first | ((with_reducible refine gate_dst (N := 6) rfl ?_); refine box_event ?hg (N := 6) ?hd (cs := #[.int .i64 0, .int .i64 0, .int .i64 0, .slice none 0 0]) (t := 40) ?hr ?_; (case hd => rfl); (case hg => rfl); (case hr => first | (go_simp; done) | (go_simp; rfl)); intro gb2840 hg w2841 hbox hb; have n0_ := mk_ (below_step (ub_ HB.out) hb); have BK345 := mk_ (hbox); have GW345 := mk_ ((by rw [hg]; exact (below_size (ub_ HB.out)) : w.heap.size ≤ gb2840)); have GE345 := ge_ ((by rw [hg]; exact (below_size (ub_ HB.out)) : w.heap.size ≤ gb2840)); replace HB := n0_; clear n0_; clear hb hbox hg; obtain ⟨_, _, _, _, _, _, _, _⟩ := cells4_ BK345.out))
 ·refine bodyPost_ret (results_ct rfl _ _ gb2840 40 #[.int .i64 0, .int .i64 0, .int .i64 0, .slice none 0 0] (0, 0) _ rfl (by (with_reducible repeat (first | refine bn_ ?_ _ | refine bw_ ?_ | refine ba_ ?_ _)); refine blk_put (cs := #[.int .i64 0, .int .i64 0, .int .i64 0, .slice none 0 0]) ?_ 3 _ rfl; (with_reducible repeat (first | refine bn_ ?_ _ | refine bw_ ?_ | refine ba_ ?_ _)); refine blk_put (cs := #[.int .i64 0, .int .i64 0, .int .i64 0, .slice none 0 0]) ?_ 2 _ rfl; (with_reducible repeat (first | refine bn_ ?_ _ | refine bw_ ?_ | refine ba_ ?_ _)); refine blk_put (cs := #[.int .i64 0, .int .i64 0, .int .i64 0, .slice none 0 0]) ?_ 1 _ rfl; (with_reducible repeat (first | refine bn_ ?_ _ | refine bw_ ?_ | refine ba_ ?_ _)); refine blk_put (cs := #[.int .i64 0, .int .i64 0, .int .i64 0, .slice none 0 0]) ?_ 0 _ rfl; (with_reducible repeat (first | refine bn_ ?_ _ | refine bw_ ?_ | refine ba_ ?_ _)); exact BK345.out) Try.underlying40 rfl (by kernel_rfl)) rfl ?_
  exact ⟨_, by first | rfl | (simp [errW_none, errW_some] <;> rfl) | (simp [*, errW_none, errW_some] <;> rfl), by first | exact Kd.R_nil _ _ _ _ _ | exact Kd.N_nil _ _ _ _ _ | exact Kd.V_nil _ _ _ _ _ | exact Kd.Q_nil _ _ _ _ _ | exact Kd.S_nil _ _ _ _ _, us_ HB.out⟩
 all_goals
  have n0_ := mk_ (blk_drew BK345.out)
  have n1_ := mk_ (below_drew1 HB.out)
  clear BK345
  clear HB
  have BK345 := n0_
  have HB := n1_
  clear n0_ n1_
  have p3200 : 0 ≤ (0 : Int) := (by omega)
  have q3200 : 0 < (l2.length : Int) := of_decide_eq_true (by first | (with_reducible assumption) | assumption)
  obtain ⟨ad3200, e3200, hx346_0⟩ := Kd.at_int HR2.out 0 p3200 q3200
  have hw346_0 := hx346_0
  (try rw [show ((0 : Int)).toNat = 0 from rfl] at hw346_0)
  (try rw [show 0 * 1 = 0 from rfl] at hw346_0)
  (try rw [Addr.add_zero'] at hw346_0)
  cases e3200
  have qi3200 : (0 < l2.length) = True := eq_true (by omega)
  (try rw [show ((0 : Int)).toNat = 0 from rfl] at hx346_0)
  (try rw [Addr.add_zero'] at hx346_0)
  replace hx346_0 := (HB.out.cell (lc_ w _ hx346_0)).trans hx346_0
  replace p3200 := eq_true p3200
  replace q3200 := eq_true q3200
  have p3760 : 0 ≤ (1 : Int) := (by omega)
  have q3760 : 1 < (l2.length : Int) := of_decide_eq_true (by first | (with_reducible assumption) | assumption)
  obtain ⟨ad3760, e3760, hx347_0⟩ := Kd.at_int HR2.out 1 p3760 q3760
  have hw347_0 := hx347_0
  (try rw [show ((1 : Int)).toNat = 1 from rfl] at hw347_0)
  (try rw [show 1 * 1 = 1 from rfl] at hw347_0)
  (try simp only [Nat.reduceMul, Nat.reduceEqDiff, Go.Addr.add, ↓reduceIte] at hw347_0)
  obtain rfl : ad3200 = ad3760 := (by injection e3760)
  (try simp only [show (1 : Int).toNat = 1 from rfl, Nat.reduceMul, Nat.reduceEqDiff, Go.Addr.add, ↓reduceIte] at hx347_0)
  have qi3760 : (1 < l2.length) = True := eq_true (by omega)
  (try rw [show ((1 : Int)).toNat = 1 from rfl] at hx347_0)
  replace hx347_0 := (HB.out.cell (lc_ w _ hx347_0)).trans hx347_0
  replace p3760 := eq_true p3760
  replace q3760 := eq_true q3760
  obtain ⟨i4320, hi4320, _, hsz4321, _⟩ := info_parts info5
  obtain ⟨A4321, hcut4321, hA4321, hC4321⟩ := print_mid_of (P := Try.prog) (Value.int .u8) 0 29 5 .i64 .i64 Try.underlying29 hi4320 hsz4321 (some ad3200) c2 l2 3 (wrap64 ((l2.length : Int) - 2)) (by omega) (by first | omega | exact of_decide_eq_true (by first | (with_reducible assumption) | assumption)) (of_decide_eq_true (by first | (with_reducible assumption) | assumption)) HC2.out
  have HR4400 := mk_ (Kd.C_of_reads (h1 := fun _ => rfl) (hA4321 _ (Kd.reads_of_C HR2.out)))
  have HC4400 := mk_ hC4321
  clear hA4321 hC4321 hi4320 hsz4321
  refine start_ (n := 18) (S := fun w' => w'.cell? ad3200 = some (.int .u8 (rd l2 0)) ∧ w'.cell? ⟨ad3200.block, ad3200.off + 1, none⟩ = some (.int .u8 (rd l2 1))) (ds := []) #[F_, F_, F_, F_, F_, F_, F_, F_, F_, F_, F_, F_, F_, F_, F_, F_, F_, F_] (by kernel_rfl) rfl rfl ⟨((HB.out.cell (lc_ w _ hw346_0)).trans hw346_0), ((HB.out.cell (lc_ w _ hw347_0)).trans hw347_0)⟩ (fun hHeld => ?_); refine with_tabW impl_MailFrom.tab3 impl_MailFrom.bits3 (fun HT_ HW_ => ?_)
  generalize w2841.drew = w4560 at BK345 HB HR4400 hx346_0 hx347_0 hHeld ⊢
  refine pure_ (i := 0) (N := some 13) (v := ?_) (a' := ?_) #[T_, F_, F_, F_, F_, F_, F_, F_, F_, F_, F_, F_, F_, F_, F_, F_, F_, F_] rfl rfl (any_of HT_.out (by kernel_rfl)) (fun _ _ _ h => h) (Or.inl ⟨by rfl, ?_⟩) ?_ ?_
  rotate_left
  ·intro w'
   go_simp
   with_reducible rfl
  rotate_left
  ·simp only [Act.put, la_, lz_, ls_, i64_w, i32_w]
   rfl
  refine pure_ (i := 1) (N := some 14) (v := ?_) (a' := ?_) #[T_, T_, F_, F_, F_, F_, F_, F_, F_, F_, F_, F_, F_, F_, F_, F_, F_, F_] rfl rfl (any_of HT_.out (by kernel_rfl)) (fun _ _ _ h => h) (Or.inl ⟨by rfl, ?_⟩) ?_ ?_
  rotate_left
  ·intro w'
   go_simp
   with_reducible rfl
  rotate_left
  ·simp only [Act.put, la_, lz_, ls_, i64_w, i32_w]
   rfl
  refine pure_ (i := 2) (N := some 15) (v := ?_) (a' := ?_) #[T_, T_, T_, F_, F_, F_, F_, F_, F_, F_, F_, F_, F_, F_, F_, F_, F_, F_] rfl rfl (any_of HT_.out (by kernel_rfl)) (fun _ _ _ h => h) (Or.inl ⟨by rfl, ?_⟩) ?_ ?_
  rotate_left
  ·intro w'
   go_simp
   with_reducible rfl
  rotate_left
  ·simp only [Act.put, la_, lz_, ls_, i64_w, i32_w]
   rfl
  refine pure_ (i := 5) (N := some 18) (v := ?_) (a' := ?_) #[T_, T_, T_, F_, F_, T_, F_, F_, F_, F_, F_, F_, F_, F_, F_, F_, F_, F_] rfl rfl (any_of HT_.out (by kernel_rfl)) (fun _ _ _ h => h) (Or.inl ⟨by rfl, ?_⟩) ?_ ?_
  rotate_left
  ·intro w'
   go_simp
   with_reducible rfl
  rotate_left
  ·simp only [Act.put, la_, lz_, ls_, i64_w, i32_w]
   rfl
  refine pure_ (i := 6) (N := some 19) (v := ?_) (a' := ?_) #[T_, T_, T_, F_, F_, T_, T_, F_, F_, F_, F_, F_, F_, F_, F_, F_, F_, F_] rfl rfl (any_of HT_.out (by kernel_rfl)) (fun _ _ _ h => h) (Or.inl ⟨by rfl, ?_⟩) ?_ ?_
  rotate_left
  ·intro w'
   go_simp
   with_reducible rfl
  rotate_left
  ·simp only [Act.put, la_, lz_, ls_, i64_w, i32_w]
   rfl
  refine pure_ (i := 9) (N := some 22) (v := ?_) (a' := ?_) #[T_, T_, T_, F_, F_, T_, T_, F_, F_, T_, F_, F_, F_, F_, F_, F_, F_, F_] rfl rfl (any_of HT_.out (by kernel_rfl)) (fun _ _ _ h => h) (Or.inl ⟨by rfl, ?_⟩) ?_ ?_
  rotate_left
  ·intro w'
   go_simp
   with_reducible rfl
  rotate_left
  ·simp only [Act.put, la_, lz_, ls_, i64_w, i32_w]
   rfl
  refine pure_ (i := 10) (N := some 23) (v := ?_) (a' := ?_) #[T_, T_, T_, F_, F_, T_, T_, F_, F_, T_, T_, F_, F_, F_, F_, F_, F_, F_] rfl rfl (any_of HT_.out (by kernel_rfl)) (fun _ _ _ h => h) (Or.inl ⟨by rfl, ?_⟩) ?_ ?_
  rotate_left
  ·intro w'
   go_simp
   with_reducible rfl
  rotate_left
  ·simp only [Act.put, la_, lz_, ls_, i64_w, i32_w]
   rfl
  refine pure_ (i := 11) (N := some 24) (v := ?_) (a' := ?_) #[T_, T_, T_, F_, F_, T_, T_, F_, F_, T_, T_, T_, F_, F_, F_, F_, F_, F_] rfl rfl (any_of HT_.out (by kernel_rfl)) (fun _ _ _ h => h) (Or.inl ⟨by rfl, ?_⟩) ?_ ?_
  rotate_left
  ·intro w'
   go_simp
   with_reducible rfl
  rotate_left
  ·simp only [Act.put, la_, lz_, ls_, i64_w, i32_w]
   rfl
  refine pure_ (i := 12) (N := some 25) (v := ?_) (a' := ?_) #[T_, T_, T_, F_, F_, T_, T_, F_, F_, T_, T_, T_, T_, F_, F_, F_, F_, F_] rfl rfl (any_of HT_.out (by kernel_rfl)) (fun _ _ _ h => h) (Or.inl ⟨by rfl, ?_⟩) ?_ ?_
  rotate_left
  ·intro w'
   go_simp
   with_reducible rfl
  rotate_left
  ·simp only [Act.put, la_, lz_, ls_, i64_w, i32_w]
   rfl
  refine pure_ (i := 13) (N := some 26) (v := ?_) (a' := ?_) #[T_, T_, T_, F_, F_, T_, T_, F_, F_, T_, T_, T_, T_, T_, F_, F_, F_, F_] rfl rfl (any_of HT_.out (by kernel_rfl)) (fun _ _ _ h => h) (Or.inl ⟨by rfl, ?_⟩) ?_ ?_
  rotate_left
  ·intro w'
   go_simp
   with_reducible rfl
  rotate_left
  ·simp only [Act.put, la_, lz_, ls_, i64_w, i32_w]
   rfl
  refine take_ (i := 3) (N := some 16) (v := ?_) (a' := ?_) #[T_, T_, T_, T_, F_, T_, T_, F_, F_, T_, T_, T_, T_, T_, F_, F_, F_, F_] rfl rfl (take_ofW HT_.out HW_.out (by kernel_rfl)) (fun _ _ _ h => h) (Or.inl ⟨by rfl, ?_⟩) hHeld ?_ ?_
  rotate_left
  ·rintro w' ⟨s6680, s6681⟩
   go_simp
   with_reducible rfl
  rotate_left
  ·simp only [Act.put, la_, lz_, ls_, i64_w, i32_w]
   rfl
  refine pure_ (i := 4) (N := some 17) (v := ?_) (a' := ?_) #[T_, T_, T_, T_, T_, T_, T_, F_, F_, T_, T_, T_, T_, T_, F_, F_, F_, F_] rfl rfl (any_of HT_.out (by kernel_rfl)) (fun _ _ _ h => h) (Or.inl ⟨by rfl, ?_⟩) ?_ ?_
  rotate_left
  ·intro w'
   go_simp
   with_reducible rfl
  rotate_left
  ·simp only [Act.put, la_, lz_, ls_, i64_w, i32_w]
   rfl
  refine take_ (i := 7) (N := some 20) (v := ?_) (a' := ?_) #[T_, T_, T_, T_, T_, T_, T_, T_, F_, T_, T_, T_, T_, T_, F_, F_, F_, F_] rfl rfl (take_ofW HT_.out HW_.out (by kernel_rfl)) (fun _ _ _ h => h) (Or.inl ⟨by rfl, ?_⟩) hHeld ?_ ?_
  rotate_left
  ·rintro w' ⟨s6680, s6681⟩
   go_simp
   with_reducible rfl
  rotate_left
  ·simp only [Act.put, la_, lz_, ls_, i64_w, i32_w]
   rfl
  refine pure_ (i := 8) (N := some 21) (v := ?_) (a' := ?_) #[T_, T_, T_, T_, T_, T_, T_, T_, T_, T_, T_, T_, T_, T_, F_, F_, F_, F_] rfl rfl (any_of HT_.out (by kernel_rfl)) (fun _ _ _ h => h) (Or.inl ⟨by rfl, ?_⟩) ?_ ?_
  rotate_left
  ·intro w'
   go_simp
   with_reducible rfl
  rotate_left
  ·simp only [Act.put, la_, lz_, ls_, i64_w, i32_w]
   rfl
  refine join_ (σ := Value × Nat) 1 #[T_, T_, T_, T_, T_, T_, T_, T_, T_, T_, T_, T_, T_, T_, T_, T_, T_, F_] (fun s_ => [(27, s_.1), (8, .pointer (some ⟨s_.2, 0, none⟩)), (28, .agg #[.int .i64 a0, .int .i64 (wrap64 (rd l2 0)), .int .i64 (wrap64 (rd l2 1)), s_.1])]) (fun s_ w' => (w'.cell? ad3200 = some (.int .u8 (rd l2 0)) ∧ w'.cell? ⟨ad3200.block, ad3200.off + 1, none⟩ = some (.int .u8 (rd l2 1))) ∧ (Kd.R (Kd.int .u8) 5 w' w.heap.size (fun _ => True) s_.1 t349) ∧ (w'.heap[gb2840]? = some (.cells #[.int .i64 0, .int .i64 0, .int .i64 0, .slice none 0 0] 40 (0, 0))) ∧ (w'.heap[s_.2]? = some (.cells #[.int .i64 0, .int .i64 0, .int .i64 0, .slice none 0 0] 40 (0, 0))) ∧ (w.heap.size ≤ s_.2) ∧ (w.heap.size ≤ s_.2) ∧ (gb2840 ≠ s_.2) ∧ (s_.2 ≠ gb2840) ∧ (Below w.heap.size w w')) ?_ ?_
  rotate_left
  ·intro hCont
   refine two_ (i := 14) (j := 16) (Ni := some 27) (Nj := some 8) #[T_, T_, T_, T_, T_, T_, T_, T_, T_, T_, T_, T_, T_, T_, T_, F_, F_, F_] #[T_, T_, T_, T_, T_, T_, T_, T_, T_, T_, T_, T_, T_, T_, F_, F_, T_, F_] rfl rfl rfl rfl (two_of HT_.out (by kernel_rfl)) (by decide) (by decide) (fun K hK => ?_) (fun K hK => ?_)
   ·skip
    refine goes_ Try.func71 (by kernel_rfl) rfl #[.slice A4321 ((l2.take ((wrap64 ((l2.length : Int) - 2)) : Int).toNat).drop 3).length (c2 - 3)] (by rfl) rfl rfl (by (try simp only [List.map_toArray, List.map_cons, List.map_nil]); first | done | (rw [show ((l2.take ((wrap64 ((l2.length : Int) - 2)) : Int).toNat).drop 3).length = ((wrap64 ((l2.length : Int) - 2)).toNat - 3) from (by rw [List.length_drop, List.length_take]; have h_ : ((wrap64 ((l2.length : Int) - 2)) : Int) ≤ (l2.length : Int) := of_decide_eq_true (by first | (with_reducible assumption) | assumption); omega)] <;> rfl) | rfl | (simp only [List.length_drop, List.length_take]; rfl)) ?_
    with_reducible refine (impl_clone_byte.calls _ _ ((l2.take ((wrap64 ((l2.length : Int) - 2)) : Int).toNat).drop 3) t349 _ ?side1 ?side2 A11.out).mono ?_
    (case side1 => repeat (first | exact (Kd.C_below HR4400.out HB.out) | (with_reducible refine Kd.C_alloc ?_ _) | (with_reducible refine Kd.C_drewN ?_ _) | (with_reducible refine Kd.C_drew ?_)))
    (case side2 => exact HC4400.out)
    rintro e w7480 ⟨v7481, rfl, ho6680, hb⟩
    refine ⟨_, rfl, ?_⟩
    have n0_ := mk_ (Kd.R_lower ho6680 (below_size (us_ HB.out)))
    have n1_ := mk_ (blk_below (u_ BK345.out) hb)
    have n2_ := mk_ (below_step (us_ HB.out) hb)
    clear BK345
    clear HB
    have HO351 := n0_
    have BK345 := n1_
    have HB := n2_
    clear n0_ n1_ n2_
    (try clear hb)
    (try clear hb2)
    (try clear hk)
    (try clear hi)
    (try clear ho6680)
    obtain ⟨Ao1620351, co1620351, eo1620351⟩ := Kd.R_slice HO351.out
    (first | subst eo1620351 | (injection eo1620351 with f1_ f2_ f3_; have f4_ := f1_.symm; have f5_ := f3_.symm; clear f1_ f2_ f3_; subst f4_; subst f5_))
    refine hK.out _ _ ⟨((HB.out.cell (lc_ w _ hw346_0)).trans hw346_0), ((HB.out.cell (lc_ w _ hw347_0)).trans hw347_0)⟩ (fun hHeld => ?_)
    clear hK K
    refine norm_ (a' := ?_) ?_ ?_
    rotate_left
    ·show Act.put _ (some 27) _ = _
     simp only [Act.put, la_, lz_, ls_, i64_w, i32_w]
     rfl
    refine pure_ (i := 15) (N := some 28) (v := ?_) (a' := ?_) #[T_, T_, T_, T_, T_, T_, T_, T_, T_, T_, T_, T_, T_, T_, T_, T_, F_, F_] rfl rfl (any_of HT_.out (by kernel_rfl)) (fun _ _ _ h => h) (Or.inl ⟨by rfl, ?_⟩) ?_ ?_
    rotate_left
    ·intro w'
     go_simp
     with_reducible rfl
    rotate_left
    ·simp only [Act.put, la_, lz_, ls_, i64_w, i32_w]
     rfl
    refine one_ (i := 16) (N := some 8) #[T_, T_, T_, T_, T_, T_, T_, T_, T_, T_, T_, T_, T_, T_, T_, T_, T_, F_] rfl rfl (one_of HT_.out (by kernel_rfl)) (by decide) (fun K hK => ?_)
    refine box_step ?hg (N := 8) ?hd (cs := #[.int .i64 0, .int .i64 0, .int .i64 0, .slice none 0 0]) (t := 40) ?hr ?_; (case hd => rfl); (case hg => rfl); (case hr => first | (go_simp; done) | (go_simp; rfl))
    intro gb7482 hg w1620351 hbox hb
    have n0_ := mk_ (Kd.R_below (Kd.ur_ HO351.out) hb)
    have n1_ := mk_ (blk_below (u_ BK345.out) hb)
    have n2_ := mk_ (below_step (us_ HB.out) hb)
    have n3_ := mk_ (hbox)
    have n4_ := mk_ ((by rw [hg]; exact (below_size (us_ HB.out)) : w.heap.size ≤ gb7482))
    have n5_ := mk_ ((by rw [hg]; exact (below_size (us_ HB.out)) : w.heap.size ≤ gb7482))
    have n6_ := mk_ ((by rw [hg]; exact Nat.ne_of_lt (blk_lt (u_ BK345.out)) : gb2840 ≠ gb7482))
    have n7_ := mk_ ((by rw [hg]; exact Nat.ne_of_gt (blk_lt (u_ BK345.out)) : gb7482 ≠ gb2840))
    clear HO351
    clear BK345
    clear HB
    have HO351 := n0_
    have BK345 := n1_
    have HB := n2_
    have BK352 := n3_
    have GW352 := n4_
    have GE352 := ge_ n5_.out
    have NB345_352 := nq_ n6_.out
    have NB352_345 := nq_ n7_.out
    clear n0_ n1_ n2_ n3_ n4_ n5_ n6_ n7_
    clear hb hbox hg
    refine hK.out _ _ ⟨((HB.out.cell (lc_ w _ hw346_0)).trans hw346_0), ((HB.out.cell (lc_ w _ hw347_0)).trans hw347_0)⟩ (fun hHeld => ?_)
    clear hK K
    refine norm_ (a' := ?_) ?_ ?_
    rotate_left
    ·show Act.put _ (some 8) _ = _
     simp only [Act.put, la_, lz_, ls_, i64_w, i32_w]
     rfl
    exact norm_ (by simp only [putAll, Act.put, la_, lz_, ls_]) (hCont (.slice Ao1620351 t349.length co1620351, gb7482) _ ⟨hHeld, (Kd.ur_ HO351.out), (u_ BK345.out), (u_ BK352.out), GW352.out, GE352.out, NB345_352.out, NB352_345.out, (us_ HB.out)⟩)
   skip
   refine box_step ?hg (N := 8) ?hd (cs := #[.int .i64 0, .int .i64 0, .int .i64 0, .slice none 0 0]) (t := 40) ?hr ?_; (case hd => rfl); (case hg => rfl); (case hr => first | (go_simp; done) | (go_simp; rfl))
   intro gb7482 hg w7480 hbox hb
   have n0_ := mk_ (blk_below (u_ BK345.out) hb)
   have n1_ := mk_ (below_step (us_ HB.out) hb)
   have n2_ := mk_ (hbox)
   have n3_ := mk_ ((by rw [hg]; exact (below_size (us_ HB.out)) : w.heap.size ≤ gb7482))
   have n4_ := mk_ ((by rw [hg]; exact (below_size (us_ HB.out)) : w.heap.size ≤ gb7482))
   have n5_ := mk_ ((by rw [hg]; exact Nat.ne_of_lt (blk_lt (u_ BK345.out)) : gb2840 ≠ gb7482))
   have n6_ := mk_ ((by rw [hg]; exact Nat.ne_of_gt (blk_lt (u_ BK345.out)) : gb7482 ≠ gb2840))
   clear BK345
   clear HB
   have BK345 := n0_
   have HB := n1_
   have BK352 := n2_
   have GW352 := n3_
   have GE352 := ge_ n4_.out
   have NB345_352 := nq_ n5_.out
   have NB352_345 := nq_ n6_.out
   clear n0_ n1_ n2_ n3_ n4_ n5_ n6_
   clear hb hbox hg
   refine hK.out _ _ ⟨((HB.out.cell (lc_ w _ hw346_0)).trans hw346_0), ((HB.out.cell (lc_ w _ hw347_0)).trans hw347_0)⟩ (fun hHeld => ?_)
   clear hK K
   refine norm_ (a' := ?_) ?_ ?_
   rotate_left
   ·show Act.put _ (some 8) _ = _
    simp only [Act.put, la_, lz_, ls_, i64_w, i32_w]
    rfl
   refine one_ (i := 14) (N := some 27) #[T_, T_, T_, T_, T_, T_, T_, T_, T_, T_, T_, T_, T_, T_, T_, F_, T_, F_] rfl rfl (one_of HT_.out (by kernel_rfl)) (by decide) (fun K hK => ?_)
   refine goes_ Try.func71 (by kernel_rfl) rfl #[.slice A4321 ((l2.take ((wrap64 ((l2.length : Int) - 2)) : Int).toNat).drop 3).length (c2 - 3)] (by rfl) rfl rfl (by (try simp only [List.map_toArray, List.map_cons, List.map_nil]); first | done | (rw [show ((l2.take ((wrap64 ((l2.length : Int) - 2)) : Int).toNat).drop 3).length = ((wrap64 ((l2.length : Int) - 2)).toNat - 3) from (by rw [List.length_drop, List.length_take]; have h_ : ((wrap64 ((l2.length : Int) - 2)) : Int) ≤ (l2.length : Int) := of_decide_eq_true (by first | (with_reducible assumption) | assumption); omega)] <;> rfl) | rfl | (simp only [List.length_drop, List.length_take]; rfl)) ?_
   with_reducible refine (impl_clone_byte.calls _ _ ((l2.take ((wrap64 ((l2.length : Int) - 2)) : Int).toNat).drop 3) t349 _ ?side1 ?side2 A11.out).mono ?_
   (case side1 => repeat (first | exact (Kd.C_below HR4400.out HB.out) | (with_reducible refine Kd.C_alloc ?_ _) | (with_reducible refine Kd.C_drewN ?_ _) | (with_reducible refine Kd.C_drew ?_)))
   (case side2 => exact HC4400.out)
   rintro e w1620351 ⟨v7481, rfl, ho6680, hb⟩
   refine ⟨_, rfl, ?_⟩
   have n0_ := mk_ (Kd.R_lower ho6680 (below_size (us_ HB.out)))
   have n1_ := mk_ (blk_below (u_ BK345.out) hb)
   have n2_ := mk_ (blk_below (u_ BK352.out) hb)
   have n3_ := mk_ (below_step (us_ HB.out) hb)
   clear BK345
   clear BK352
   clear HB
   have HO351 := n0_
   have BK345 := n1_
   have BK352 := n2_
   have HB := n3_
   clear n0_ n1_ n2_ n3_
   (try clear hb)
   (try clear hb2)
   (try clear hk)
   (try clear hi)
   (try clear ho6680)
   obtain ⟨Ao1620351, co1620351, eo1620351⟩ := Kd.R_slice HO351.out
   (first | subst eo1620351 | (injection eo1620351 with f1_ f2_ f3_; have f4_ := f1_.symm; have f5_ := f3_.symm; clear f1_ f2_ f3_; subst f4_; subst f5_))
   refine hK.out _ _ ⟨((HB.out.cell (lc_ w _ hw346_0)).trans hw346_0), ((HB.out.cell (lc_ w _ hw347_0)).trans hw347_0)⟩ (fun hHeld => ?_)
   clear hK K
   refine norm_ (a' := ?_) ?_ ?_
   rotate_left
   ·show Act.put _ (some 27) _ = _
    simp only [Act.put, la_, lz_, ls_, i64_w, i32_w]
    rfl
   refine pure_ (i := 15) (N := some 28) (v := ?_) (a' := ?_) #[T_, T_, T_, T_, T_, T_, T_, T_, T_, T_, T_, T_, T_, T_, T_, T_, T_, F_] rfl rfl (any_of HT_.out (by kernel_rfl)) (fun _ _ _ h => h) (Or.inl ⟨by rfl, ?_⟩) ?_ ?_
   rotate_left
   ·intro w'
    go_simp
    with_reducible rfl
   rotate_left
   ·simp only [Act.put, la_, lz_, ls_, i64_w, i32_w]
    rfl
   exact norm_ (by simp only [putAll, Act.put, la_, lz_, ls_]) (hCont (.slice Ao1620351 t349.length co1620351, gb7482) _ ⟨hHeld, (Kd.ur_ HO351.out), (u_ BK345.out), (u_ BK352.out), GW352.out, GE352.out, NB345_352.out, NB352_345.out, (us_ HB.out)⟩)
  rintro ⟨v7481, gb7482⟩ w7520 ⟨hS_, h0_, h1_, h2_, h3_, h4_, h5_, h6_, h7_⟩
  have n0_ : Aside0 (Kd.R (Kd.int .u8) 5 w7520 w.heap.size (fun _ => True) v7481 t349) := ⟨h0_⟩
  have n1_ : Aside0 (w7520.heap[gb2840]? = some (.cells #[.int .i64 0, .int .i64 0, .int .i64 0, .slice none 0 0] 40 (0, 0))) := ⟨h1_⟩
  have n2_ : Aside0 (w7520.heap[gb7482]? = some (.cells #[.int .i64 0, .int .i64 0, .int .i64 0, .slice none 0 0] 40 (0, 0))) := ⟨h2_⟩
  have n3_ : Aside0 (w.heap.size ≤ gb7482) := ⟨h3_⟩
  have n4_ : Aside0 (w.heap.size ≤ gb7482) := ⟨h4_⟩
  have n5_ : Aside0 (gb2840 ≠ gb7482) := ⟨h5_⟩
  have n6_ : Aside0 (gb7482 ≠ gb2840) := ⟨h6_⟩
  have n7_ : Aside0 (Below w.heap.size w w7520) := ⟨h7_⟩
  clear BK345
  clear HB
  clear h0_ h1_ h2_ h3_ h4_ h5_ h6_ h7_
  have HO351 := n0_
  have BK345 := n1_
  have BK352 := n2_
  have GW352 := n3_
  have GE352 := ge_ n4_.out
  have NB345_352 := nq_ n5_.out
  have NB352_345 := nq_ n6_.out
  have HB := n7_
  clear n0_ n1_ n2_ n3_ n4_ n5_ n6_ n7_
  have hHeld : w7520.cell? ad3200 = some (.int .u8 (rd l2 0)) ∧ w7520.cell? ⟨ad3200.block, ad3200.off + 1, none⟩ = some (.int .u8 (rd l2 1)) := hS_
  obtain ⟨Ao1850351, co1850351, eo1850351⟩ := Kd.R_slice HO351.out
  (first | subst eo1850351 | (injection eo1850351 with f1_ f2_ f3_; have f4_ := f1_.symm; have f5_ := f3_.symm; clear f1_ f2_ f3_; subst f4_; subst f5_))
  refine norm_ (a' := ?_) ?_ ?_
  rotate_left
  ·simp only [putAll, Act.put, la_, lz_, ls_]
   rfl
  refine one_ (i := 17) (N := none) #[T_, T_, T_, T_, T_, T_, T_, T_, T_, T_, T_, T_, T_, T_, T_, T_, T_, T_] rfl rfl (one_of HT_.out (by kernel_rfl)) (by decide) (fun K hK => ?_)
  have hs8640 : w7520.cell? ⟨gb7482, 0, none⟩ = some (.int .i64 0) := (blk_cell BK352.out 0).trans rfl
  have hfs8640 := blk_frozen BK352.out 0
  have hns8640_0 := NB345_352.out
  have hms8640_0 := NB352_345.out
  have hs8800 : w7520.cell? ⟨gb7482, 1, none⟩ = some (.int .i64 0) := (blk_cell BK352.out 1).trans rfl
  have hfs8800 := blk_frozen BK352.out 1
  have hns8800_0 := NB345_352.out
  have hms8800_0 := NB352_345.out
  have hs8960 : w7520.cell? ⟨gb7482, 2, none⟩ = some (.int .i64 0) := (blk_cell BK352.out 2).trans rfl
  have hfs8960 := blk_frozen BK352.out 2
  have hns8960_0 := NB345_352.out
  have hms8960_0 := NB352_345.out
  have hs9120 : w7520.cell? ⟨gb7482, 3, none⟩ = some (.slice none 0 0) := (blk_cell BK352.out 3).trans rfl
  have hfs9120 := blk_frozen BK352.out 3
  have hns9120_0 := NB345_352.out
  have hms9120_0 := NB352_345.out
  refine skip_ (w1 := ?_) (by rfl) rfl ?_ ?_
  rotate_left
  ·go_simp
   rfl
  refine hK.out _ _ ⟨((cell_far (p := ⟨gb7482, _, none⟩) (by first | exact (ne1_ (by have := lc_ _ _ hw346_0; first | rwa [add_block] at this | exact this) GW352.out) | (rw [add_block]; exact (ne1_ (by have := lc_ _ _ hw346_0; first | rwa [add_block] at this | exact this) GW352.out)) | (show (Addr.add _ _).block ≠ _; rw [add_block]; exact (ne1_ (by have := lc_ _ _ hw346_0; first | rwa [add_block] at this | exact this) GW352.out)) | (dsimp only; exact (ne1_ (by have := lc_ _ _ hw346_0; first | rwa [add_block] at this | exact this) GW352.out))) _).trans (((cell_far (p := ⟨gb7482, _, none⟩) (by first | exact (ne1_ (by have := lc_ _ _ hw346_0; first | rwa [add_block] at this | exact this) GW352.out) | (rw [add_block]; exact (ne1_ (by have := lc_ _ _ hw346_0; first | rwa [add_block] at this | exact this) GW352.out)) | (show (Addr.add _ _).block ≠ _; rw [add_block]; exact (ne1_ (by have := lc_ _ _ hw346_0; first | rwa [add_block] at this | exact this) GW352.out)) | (dsimp only; exact (ne1_ (by have := lc_ _ _ hw346_0; first | rwa [add_block] at this | exact this) GW352.out))) _).trans (((cell_far (p := ⟨gb7482, _, none⟩) (by first | exact (ne1_ (by have := lc_ _ _ hw346_0; first | rwa [add_block] at this | exact this) GW352.out) | (rw [add_block]; exact (ne1_ (by have := lc_ _ _ hw346_0; first | rwa [add_block] at this | exact this) GW352.out)) | (show (Addr.add _ _).block ≠ _; rw [add_block]; exact (ne1_ (by have := lc_ _ _ hw346_0; first | rwa [add_block] at this | exact this) GW352.out)) | (dsimp only; exact (ne1_ (by have := lc_ _ _ hw346_0; first | rwa [add_block] at this | exact this) GW352.out))) _).trans (((cell_far (p := ⟨gb7482, _, none⟩) (by first | exact (ne1_ (by have := lc_ _ _ hw346_0; first | rwa [add_block] at this | exact this) GW352.out) | (rw [add_block]; exact (ne1_ (by have := lc_ _ _ hw346_0; first | rwa [add_block] at this | exact this) GW352.out)) | (show (Addr.add _ _).block ≠ _; rw [add_block]; exact (ne1_ (by have := lc_ _ _ hw346_0; first | rwa [add_block] at this | exact this) GW352.out)) | (dsimp only; exact (ne1_ (by have := lc_ _ _ hw346_0; first | rwa [add_block] at this | exact this) GW352.out))) _).trans (hHeld.1)))))))), ((cell_far (p := ⟨gb7482, _, none⟩) (by first | exact (ne1_ (by have := lc_ _ _ hw347_0; first | rwa [add_block] at this | exact this) GW352.out) | (rw [add_block]; exact (ne1_ (by have := lc_ _ _ hw347_0; first | rwa [add_block] at this | exact this) GW352.out)) | (show (Addr.add _ _).block ≠ _; rw [add_block]; exact (ne1_ (by have := lc_ _ _ hw347_0; first | rwa [add_block] at this | exact this) GW352.out)) | (dsimp only; exact (ne1_ (by have := lc_ _ _ hw347_0; first | rwa [add_block] at this | exact this) GW352.out))) _).trans (((cell_far (p := ⟨gb7482, _, none⟩) (by first | exact (ne1_ (by have := lc_ _ _ hw347_0; first | rwa [add_block] at this | exact this) GW352.out) | (rw [add_block]; exact (ne1_ (by have := lc_ _ _ hw347_0; first | rwa [add_block] at this | exact this) GW352.out)) | (show (Addr.add _ _).block ≠ _; rw [add_block]; exact (ne1_ (by have := lc_ _ _ hw347_0; first | rwa [add_block] at this | exact this) GW352.out)) | (dsimp only; exact (ne1_ (by have := lc_ _ _ hw347_0; first | rwa [add_block] at this | exact this) GW352.out))) _).trans (((cell_far (p := ⟨gb7482, _, none⟩) (by first | exact (ne1_ (by have := lc_ _ _ hw347_0; first | rwa [add_block] at this | exact this) GW352.out) | (rw [add_block]; exact (ne1_ (by have := lc_ _ _ hw347_0; first | rwa [add_block] at this | exact this) GW352.out)) | (show (Addr.add _ _).block ≠ _; rw [add_block]; exact (ne1_ (by have := lc_ _ _ hw347_0; first | rwa [add_block] at this | exact this) GW352.out)) | (dsimp only; exact (ne1_ (by have := lc_ _ _ hw347_0; first | rwa [add_block] at this | exact this) GW352.out))) _).trans (((cell_far (p := ⟨gb7482, _, none⟩) (by first | exact (ne1_ (by have := lc_ _ _ hw347_0; first | rwa [add_block] at this | exact this) GW352.out) | (rw [add_block]; exact (ne1_ (by have := lc_ _ _ hw347_0; first | rwa [add_block] at this | exact this) GW352.out)) | (show (Addr.add _ _).block ≠ _; rw [add_block]; exact (ne1_ (by have := lc_ _ _ hw347_0; first | rwa [add_block] at this | exact this) GW352.out)) | (dsimp only; exact (ne1_ (by have := lc_ _ _ hw347_0; first | rwa [add_block] at this | exact this) GW352.out))) _).trans (hHeld.2))))))))⟩ (fun hHeld => ?_)
  clear hK K
  refine done_ (done_of HT_.out (by kernel_rfl)) ?_
  have hnb2130345352 := NB352_345.out
  have hnc2130345352 := NB345_352.out
  obtain ⟨_, _, _, _, _, _, _, _⟩ := cells4_ BK352.out
  try go_wp2_with (first | ((with_reducible refine gate_callee (f := 73) rfl ?_); refine goesL_ (some 31) rfl rfl Try.func73 (by kernel_rfl) rfl #[.agg #[.int .i64 a0, .int .i64 (wrap64 (rd l2 0)), .int .i64 (wrap64 (rd l2 1)), .slice Ao1850351 t349.length co1850351], .int .i64 a1] rfl (by (try simp only [lm_, lo_, ln_]); try rfl) ?_; (with_reducible refine (impl_MailBytes.calls k a0 (wrap64 (rd l2 0)) (wrap64 (rd l2 1)) _ _ t349 a1 t353 _ ?side1 ?side2 A12.out).mono ?_); (case side1 => refine (Kd.R_reads' (e := 5) (base := w.heap.size) (ok := fun k_ => True) (n := t349.length) (c := co1850351) ?_).2.2; exact (by (with_reducible repeat (first | apply Kd.R_alloc | apply Kd.R_drewN | apply Kd.R_drew)); exact (Kd.R_mono (Kd.R_far (p := ⟨gb7482, 3, none⟩) (Kd.R_far (p := ⟨gb7482, 2, none⟩) (Kd.R_far (p := ⟨gb7482, 1, none⟩) (Kd.R_far (p := ⟨gb7482, 0, none⟩) (Kd.R_types HO351.out BK352.out (by decide)) (fun _ hk => hk.2) (.int .i64 a0)) (fun _ hk => hk.2) (.int .i64 (wrap64 (rd l2 0)))) (fun _ hk => hk.2) (.int .i64 (wrap64 (rd l2 1)))) (fun _ hk => hk.2) (.slice Ao1850351 t349.length co1850351)) (fun _ h_ => by first | exact h_.1 | simp only [h_, ne_eq, not_false_eq_true, and_self])))); (case side2 => exact (Kd.R_reads' HO351.out).2.1); rintro e w9640 ⟨v9641, rfl, ho6680, hb⟩; refine ⟨_, rfl, ?_⟩; have n0_ := mk_ (Kd.R_elder' (by (with_reducible repeat (first | apply Kd.R_alloc | apply Kd.R_drewN | apply Kd.R_drew)); exact (Kd.R_mono (Kd.R_far (p := ⟨gb7482, 3, none⟩) (Kd.R_far (p := ⟨gb7482, 2, none⟩) (Kd.R_far (p := ⟨gb7482, 1, none⟩) (Kd.R_far (p := ⟨gb7482, 0, none⟩) (Kd.R_types HO351.out BK352.out (by decide)) (fun _ hk => hk.2) (.int .i64 a0)) (fun _ hk => hk.2) (.int .i64 (wrap64 (rd l2 0)))) (fun _ hk => hk.2) (.int .i64 (wrap64 (rd l2 1)))) (fun _ hk => hk.2) (.slice Ao1850351 t349.length co1850351)) (fun _ h_ => by first | exact h_.1 | simp only [h_, ne_eq, not_false_eq_true, and_self]))) (Kd.R_base ho6680) hb); have HO355 := mk_ (Kd.R_lower (Kd.R_new' ho6680 (Kd.R_lt (by (with_reducible repeat (first | apply Kd.R_alloc | apply Kd.R_drewN | apply Kd.R_drew)); exact (Kd.R_mono (Kd.R_far (p := ⟨gb7482, 3, none⟩) (Kd.R_far (p := ⟨gb7482, 2, none⟩) (Kd.R_far (p := ⟨gb7482, 1, none⟩) (Kd.R_far (p := ⟨gb7482, 0, none⟩) (Kd.R_types HO351.out BK352.out (by decide)) (fun _ hk => hk.2) (.int .i64 a0)) (fun _ hk => hk.2) (.int .i64 (wrap64 (rd l2 0)))) (fun _ hk => hk.2) (.int .i64 (wrap64 (rd l2 1)))) (fun _ hk => hk.2) (.slice Ao1850351 t349.length co1850351)) (fun _ h_ => by first | exact h_.1 | simp only [h_, ne_eq, not_false_eq_true, and_self]))))) (below_size (us_ HB.out))); replace BK345 := mk_ (blk_below (g := gb2840) (o := .cells #[.int .i64 0, .int .i64 0, .int .i64 0, .slice none 0 0] 40 (0, 0)) (uf_ BK345.out) hb); replace BK352 := mk_ (blk_below (g := gb7482) (o := .cells #[.int .i64 a0, .int .i64 (wrap64 (rd l2 0)), .int .i64 (wrap64 (rd l2 1)), .slice Ao1850351 t349.length co1850351] 40 (0, 0)) (by (with_reducible repeat (first | refine bn_ ?_ _ | refine bw_ ?_ | refine ba_ ?_ _)); refine blk_put (cs := #[.int .i64 a0, .int .i64 (wrap64 (rd l2 0)), .int .i64 (wrap64 (rd l2 1)), .slice none 0 0]) ?_ 3 _ rfl; (with_reducible repeat (first | refine bn_ ?_ _ | refine bw_ ?_ | refine ba_ ?_ _)); refine blk_put (cs := #[.int .i64 a0, .int .i64 (wrap64 (rd l2 0)), .int .i64 0, .slice none 0 0]) ?_ 2 _ rfl; (with_reducible repeat (first | refine bn_ ?_ _ | refine bw_ ?_ | refine ba_ ?_ _)); refine blk_put (cs := #[.int .i64 a0, .int .i64 0, .int .i64 0, .slice none 0 0]) ?_ 1 _ rfl; (with_reducible repeat (first | refine bn_ ?_ _ | refine bw_ ?_ | refine ba_ ?_ _)); refine blk_put (cs := #[.int .i64 0, .int .i64 0, .int .i64 0, .slice none 0 0]) ?_ 0 _ rfl; (with_reducible repeat (first | refine bn_ ?_ _ | refine bw_ ?_ | refine ba_ ?_ _)); exact BK352.out) hb); replace HB := mk_ (below_step (us_ HB.out) hb); replace HO351 := n0_; clear n0_; obtain ⟨Ao2160355, co2160355, eo2160355⟩ := Kd.R_slice HO355.out; subst eo2160355) | ((with_reducible refine gate_callee (f := 72) rfl ?_); refine goesL_ (some 33) rfl rfl Try.func72 (by kernel_rfl) rfl #[.slice Ao2160355 t353.length co2160355, .slice (some ad3200) l2.length c2] rfl (by (try simp only [lm_, lo_, ln_]); try rfl) ?_; (with_reducible refine (slices_Equal_byte_byte.calls k _ _ t353 _ _ l2 true _ ?side1 ?side2 ?side3 ?side4 A13.out).mono ?_); (case side1 => repeat (first | exact (Kd.R_reads' HO355.out).2.2 | (with_reducible refine Kd.C_alloc ?_ _) | (with_reducible refine Kd.C_drewN ?_ _) | (with_reducible refine Kd.C_drew ?_))); (case side2 => exact (Kd.R_reads' HO355.out).2.1); (case side3 => repeat (first | exact (Kd.C_below HR2.out HB.out) | (with_reducible refine Kd.C_alloc ?_ _) | (with_reducible refine Kd.C_drewN ?_ _) | (with_reducible refine Kd.C_drew ?_))); (case side4 => exact HC2.out); rintro e w' ⟨rfl, ⟨nd, rfl⟩⟩; refine ⟨_, rfl, ?_⟩; (try simp only [World.drewN_drewN]); (try (rw [drewN_self w9640]; generalize hq_ : World.drewN w9640 _ = w9640; have n0_ : Aside0 (Kd.R (Kd.int .u8) 5 w9640 w.heap.size (fun k_ => some k_ ≠ (.slice Ao2160355 t353.length co2160355 : Value).ownBlock) (.slice Ao1850351 t349.length co1850351) t349) := ⟨by rw [← hq_]; exact (by (with_reducible repeat (first | apply Kd.R_alloc | apply Kd.R_drewN | apply Kd.R_drew)); exact Kd.R_mono HO351.out (fun _ hk => hk.2))⟩; have n1_ : Aside0 (Kd.R (Kd.int .u8) 5 w9640 w.heap.size (fun k_ => some k_ ≠ (.slice Ao1850351 t349.length co1850351 : Value).ownBlock) (.slice Ao2160355 t353.length co2160355) t353) := ⟨by rw [← hq_]; exact (by (with_reducible repeat (first | apply Kd.R_alloc | apply Kd.R_drewN | apply Kd.R_drew)); exact Kd.R_mono HO355.out (fun _ hk => hk.2))⟩; have n2_ : Aside0 (w9640.heap[gb2840]? = some (.cells #[.int .i64 0, .int .i64 0, .int .i64 0, .slice none 0 0] 40 (0, 0))) := ⟨by rw [← hq_]; exact (u_ BK345.out)⟩; have n3_ : Aside0 (w9640.heap[gb7482]? = some (.cells #[.int .i64 a0, .int .i64 (wrap64 (rd l2 0)), .int .i64 (wrap64 (rd l2 1)), .slice Ao1850351 t349.length co1850351] 40 (0, 0))) := ⟨by rw [← hq_]; exact (u_ BK352.out)⟩; have n4_ : Aside0 (Below w.heap.size w w9640) := ⟨by rw [← hq_]; exact (us_ HB.out)⟩; clear HO351 HO355 BK345 BK352 HB hq_; have HO351 := n0_; have HO355 := n1_; have BK345 := n2_; have BK352 := n3_; have HB := n4_; clear n0_ n1_ n2_ n3_ n4_)); obtain ⟨_, _, _, _, _, _, _, _⟩ := cells4_ BK352.out; obtain ⟨_, _, _, _, _, _, _, _⟩ := cells4_ BK345.out) | ((with_reducible refine gate_callee (f := 72) rfl ?_); refine goesL_ (some 33) rfl rfl Try.func72 (by kernel_rfl) rfl #[.slice Ao2160355 t353.length co2160355, .slice (some ad3200) l2.length c2] rfl (by (try simp only [lm_, lo_, ln_]); try rfl) ?_; (with_reducible refine (slices_Equal_byte_byte.calls k _ _ t353 _ _ l2 false _ ?side1 ?side2 ?side3 ?side4 A13.out).mono ?_); (case side1 => repeat (first | exact (Kd.R_reads' HO355.out).2.2 | (with_reducible refine Kd.C_alloc ?_ _) | (with_reducible refine Kd.C_drewN ?_ _) | (with_reducible refine Kd.C_drew ?_))); (case side2 => exact (Kd.R_reads' HO355.out).2.1); (case side3 => repeat (first | exact (Kd.C_below HR2.out HB.out) | (with_reducible refine Kd.C_alloc ?_ _) | (with_reducible refine Kd.C_drewN ?_ _) | (with_reducible refine Kd.C_drew ?_))); (case side4 => exact HC2.out); rintro e w' ⟨rfl, ⟨nd, rfl⟩⟩; refine ⟨_, rfl, ?_⟩; (try simp only [World.drewN_drewN]); (try (rw [drewN_self w9640]; generalize hq_ : World.drewN w9640 _ = w9640; have n0_ : Aside0 (Kd.R (Kd.int .u8) 5 w9640 w.heap.size (fun k_ => some k_ ≠ (.slice Ao2160355 t353.length co2160355 : Value).ownBlock) (.slice Ao1850351 t349.length co1850351) t349) := ⟨by rw [← hq_]; exact (by (with_reducible repeat (first | apply Kd.R_alloc | apply Kd.R_drewN | apply Kd.R_drew)); exact Kd.R_mono HO351.out (fun _ hk => hk.2))⟩; have n1_ : Aside0 (Kd.R (Kd.int .u8) 5 w9640 w.heap.size (fun k_ => some k_ ≠ (.slice Ao1850351 t349.length co1850351 : Value).ownBlock) (.slice Ao2160355 t353.length co2160355) t353) := ⟨by rw [← hq_]; exact (by (with_reducible repeat (first | apply Kd.R_alloc | apply Kd.R_drewN | apply Kd.R_drew)); exact Kd.R_mono HO355.out (fun _ hk => hk.2))⟩; have n2_ : Aside0 (w9640.heap[gb2840]? = some (.cells #[.int .i64 0, .int .i64 0, .int .i64 0, .slice none 0 0] 40 (0, 0))) := ⟨by rw [← hq_]; exact (u_ BK345.out)⟩; have n3_ : Aside0 (w9640.heap[gb7482]? = some (.cells #[.int .i64 a0, .int .i64 (wrap64 (rd l2 0)), .int .i64 (wrap64 (rd l2 1)), .slice Ao1850351 t349.length co1850351] 40 (0, 0))) := ⟨by rw [← hq_]; exact (u_ BK352.out)⟩; have n4_ : Aside0 (Below w.heap.size w w9640) := ⟨by rw [← hq_]; exact (us_ HB.out)⟩; clear HO351 HO355 BK345 BK352 HB hq_; have HO351 := n0_; have HO355 := n1_; have BK345 := n2_; have BK352 := n3_; have HB := n4_; clear n0_ n1_ n2_ n3_ n4_)); obtain ⟨_, _, _, _, _, _, _, _⟩ := cells4_ BK345.out))
 ·refine bodyPost_ret (results_ct rfl _ _ gb2840 40 #[.int .i64 a0, .int .i64 (wrap64 (rd l2 0)), .int .i64 (wrap64 (rd l2 1)), .slice Ao1850351 t349.length co1850351] (0, 0) _ rfl (by (with_reducible repeat (first | refine bn_ ?_ _ | refine bw_ ?_ | refine ba_ ?_ _)); refine blk_put (cs := #[.int .i64 a0, .int .i64 (wrap64 (rd l2 0)), .int .i64 (wrap64 (rd l2 1)), .slice none 0 0]) ?_ 3 _ rfl; (with_reducible repeat (first | refine bn_ ?_ _ | refine bw_ ?_ | refine ba_ ?_ _)); refine blk_put (cs := #[.int .i64 a0, .int .i64 (wrap64 (rd l2 0)), .int .i64 0, .slice none 0 0]) ?_ 2 _ rfl; (with_reducible repeat (first | refine bn_ ?_ _ | refine bw_ ?_ | refine ba_ ?_ _)); refine blk_put (cs := #[.int .i64 a0, .int .i64 0, .int .i64 0, .slice none 0 0]) ?_ 1 _ rfl; (with_reducible repeat (first | refine bn_ ?_ _ | refine bw_ ?_ | refine ba_ ?_ _)); refine blk_put (cs := #[.int .i64 0, .int .i64 0, .int .i64 0, .slice none 0 0]) ?_ 0 _ rfl; (with_reducible repeat (first | refine bn_ ?_ _ | refine bw_ ?_ | refine ba_ ?_ _)); exact BK345.out) Try.underlying40 rfl (by kernel_rfl)) rfl ?_
  exact ⟨_, by first | rfl | (simp [errW_none, errW_some] <;> rfl) | (simp [*, errW_none, errW_some] <;> rfl), by (with_reducible repeat (first | apply Kd.R_alloc | apply Kd.R_drewN | apply Kd.R_drew)); exact Kd.R_mono (Kd.R_far (p := ⟨gb2840, 3, none⟩) (Kd.R_far (p := ⟨gb2840, 2, none⟩) (Kd.R_far (p := ⟨gb2840, 1, none⟩) (Kd.R_far (p := ⟨gb2840, 0, none⟩) (Kd.R_types HO351.out BK345.out (by decide)) (fun _ hk => hk.2) (.int .i64 a0)) (fun _ hk => hk.2) (.int .i64 (wrap64 (rd l2 0)))) (fun _ hk => hk.2) (.int .i64 (wrap64 (rd l2 1)))) (fun _ hk => hk.2) (.slice Ao1850351 t349.length co1850351)) (fun _ hk => trivial), us_ HB.out⟩
 ·refine bodyPost_ret (results_ct rfl _ _ gb2840 40 #[.int .i64 0, .int .i64 0, .int .i64 0, .slice none 0 0] (0, 0) _ rfl (by (with_reducible repeat (first | refine bn_ ?_ _ | refine bw_ ?_ | refine ba_ ?_ _)); refine blk_put (cs := #[.int .i64 0, .int .i64 0, .int .i64 0, .slice none 0 0]) ?_ 3 _ rfl; (with_reducible repeat (first | refine bn_ ?_ _ | refine bw_ ?_ | refine ba_ ?_ _)); refine blk_put (cs := #[.int .i64 0, .int .i64 0, .int .i64 0, .slice none 0 0]) ?_ 2 _ rfl; (with_reducible repeat (first | refine bn_ ?_ _ | refine bw_ ?_ | refine ba_ ?_ _)); refine blk_put (cs := #[.int .i64 0, .int .i64 0, .int .i64 0, .slice none 0 0]) ?_ 1 _ rfl; (with_reducible repeat (first | refine bn_ ?_ _ | refine bw_ ?_ | refine ba_ ?_ _)); refine blk_put (cs := #[.int .i64 0, .int .i64 0, .int .i64 0, .slice none 0 0]) ?_ 0 _ rfl; (with_reducible repeat (first | refine bn_ ?_ _ | refine bw_ ?_ | refine ba_ ?_ _)); exact BK345.out) Try.underlying40 rfl (by kernel_rfl)) rfl ?_
  exact ⟨_, by first | rfl | (simp [errW_none, errW_some] <;> rfl) | (simp [*, errW_none, errW_some] <;> rfl), by first | exact Kd.R_nil _ _ _ _ _ | exact Kd.N_nil _ _ _ _ _ | exact Kd.V_nil _ _ _ _ _ | exact Kd.Q_nil _ _ _ _ _ | exact Kd.S_nil _ _ _ _ _, us_ HB.out⟩

-- NOT PRINTED: function 53 (impl_ports)

/-! ### cmp_isNaN_int: function 99 -/
def cmp_isNaN_int.f (a0 : Int) : Option (Bool) := some (a0 != a0)
set_option maxHeartbeats 8000000 in
set_option maxRecDepth 100000 in
theorem cmp_isNaN_int.calls (a0 : Int) (r : Bool) (w : World) (h : cmp_isNaN_int.f a0 = some r) :
  Calls Try.prog 99 #[.int .i64 a0] w fun e w' => e = .returned (.bool r) ∧ Drawn0 w w' := by
 have H : (some (a0 != a0)) = some r := h
 clear h
 obtain rfl := Option.some.inj H
 go_enter Try.func99, Try.ntmps99
 go_wp2
 go_ret
 exact ⟨by first | rfl | (simp; done) | (simp [*]; done), by repeat (first | exact Drawn0.refl _ | apply Drawn0.step)⟩

end Go.Proofs.Ytkkibccnpkbbjaa.MFnExactPortHear
