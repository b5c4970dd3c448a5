/- Functions that the law FnMailFrom reaches, each with the proof that the machine's call comes to just its answer; no conditions but those that each theorem states. Printed by a program of this session over the kit's print. -/
import Derived.Test.YtfcocnhkimbpbaaMFnMailFromx0
import Derived.Test.YtfcocnhkimbpbaaMFnMailFromx2
namespace Go.Proofs.Ytfcocnhkimbpbaa.MFnMailFrom
open Go.RowKit Go.Proofs.YtfcocnhkimbpbaaV.PrintWords Go.Proofs.YtfcocnhkimbpbaaV.PrintLast Go.Proofs.YtfcocnhkimbpbaaV.PrintMore
attribute [local go_sem] max2_int min2_int max_two min_two max_three min_three max_four min_four   -- for this text's walks alone
set_option linter.unusedVariables false
set_option linter.unusedSimpArgs false

/-! ### impl_MailFrom: function 21 -/
def impl_MailFrom.f (k : Nat) (a0 : Int) (a1 : Int) (l2 : List Int) : Option (Int × Int × Int × List Int × Bool) := if (l2.length : Int) < 5 then (some (0, 0, 0, ([] : List Int), false)) else (if 0 < (l2.length : Int) then (if 1 < (l2.length : Int) then (if 3 ≤ (wrap64 ((l2.length : Int) - 2)) then (if (wrap64 ((l2.length : Int) - 2)) ≤ (l2.length : Int) then ((impl_clone_byte.f ((l2.take ((wrap64 ((l2.length : Int) - 2)) : Int).toNat).drop 3)).bind fun t169 => ((impl_MailBytes.f k a0 (wrap64 (rd l2 0)) (wrap64 (rd l2 1)) t169 a1).bind fun t173 => ((slices_Equal_byte_byte.f k t173 l2).bind fun t176 => (if t176 = true then (some (a0, wrap64 (rd l2 0), wrap64 (rd l2 1), t169, true)) else (some (0, 0, 0, ([] : List Int), false)))))) else (none)) else (none)) else (none)) else (none))
theorem impl_MailFrom.mono : ∀ a0 a1 a2 k, LeO (impl_MailFrom.f k a0 a1 a2) (impl_MailFrom.f (k + 1) a0 a1 a2) := by
 intro a0 a1 a2 k
 unfold impl_MailFrom.f
 repeat' first
   | (with_reducible exact impl_MailBytes.mono _ _ _ _ _ _)
   | (with_reducible exact slices_Equal_byte_byte.mono _ _ _)
   | (with_reducible exact LeO.refl _)
   | (with_reducible exact LeO.none _)
   | (with_reducible refine LeO.ite ?_ ?_)
   | (with_reducible refine LeO.bind ?_ (fun _ => ?_))
   | exact impl_MailBytes.mono _ _ _ _ _ _
   | exact slices_Equal_byte_byte.mono _ _ _
   | exact LeO.none _
   | refine LeO.ite ?_ ?_
   | refine LeO.bind ?_ (fun _ => ?_)
def impl_MailFrom.T3 : Bool × List (List Nat × List Nat) := (true, [([], []), ([], []), ([1], [1]), ([2], [2]), ([3], [3]), ([], []), ([5], [5]), ([6], [6]), ([7], [7]), ([], []), ([], []), ([10], [10]), ([11], [11]), ([9, 12], [9, 12]), ([13], [13]), ([0, 4, 8, 14], [0, 4, 8, 14]), ([], []), ([16, 15, 14, 0, 1, 2, 3, 4, 5, 6, 7, 8, 9, 10, 11, 12, 13, 14, 15, 16], [15, 16])])
def impl_MailFrom.B3 : List Nat := [0, 0, 2, 6, 14, 0, 32, 96, 224, 0, 0, 1024, 3072, 7680, 15872, 32767, 0, 131071]
theorem impl_MailFrom.tab3 : rtab .any (opsOf Try.f21 3) = impl_MailFrom.T3 := by kernel_rfl
theorem impl_MailFrom.bits3 : waitsOk impl_MailFrom.T3.2 impl_MailFrom.B3 = true := by kernel_rfl
set_option maxHeartbeats 8000000 in
set_option maxRecDepth 100000 in
theorem impl_MailFrom.calls (k : Nat) (a0 : Int) (a1 : Int) (A2 : Option Addr) (c2 : Nat) (l2 : List Int) (r1 : Int) (r2 : Int) (r3 : Int) (r4 : List Int) (r5 : Bool) (w : World) (hr2 : Kd.C (Kd.int .u8) w A2 l2.length l2) (hc2 : l2.length ≤ c2) (h : impl_MailFrom.f k a0 a1 l2 = some (r1, r2, r3, r4, r5)) :
  Calls Try.prog 21 #[.int .i64 a0, .int .i64 a1, .slice A2 l2.length c2] w fun e w' => ∃ v3_ : Value, e = .returned (.tuple #[.agg #[.int .i64 r1, .int .i64 r2, .int .i64 r3, v3_], .bool r5]) ∧ Kd.R (Kd.int .u8) 5 w' w.heap.size (fun _ => True) v3_ r4 ∧ Below w.heap.size w w' := by
 have hu27 := Try.underlying27
 have HR2 := mk_ hr2
 have HC2 := mk_ hc2
 clear hr2 hc2
 have HB := mk_ (Below.refl w.heap.size w)
 have H : (if (l2.length : Int) < 5 then (some (0, 0, 0, ([] : List Int), false)) else (if 0 < (l2.length : Int) then (if 1 < (l2.length : Int) then (if 3 ≤ (wrap64 ((l2.length : Int) - 2)) then (if (wrap64 ((l2.length : Int) - 2)) ≤ (l2.length : Int) then ((impl_clone_byte.f ((l2.take ((wrap64 ((l2.length : Int) - 2)) : Int).toNat).drop 3)).bind fun t169 => ((impl_MailBytes.f k a0 (wrap64 (rd l2 0)) (wrap64 (rd l2 1)) t169 a1).bind fun t173 => ((slices_Equal_byte_byte.f k t173 l2).bind fun t176 => (if t176 = true then (some (a0, wrap64 (rd l2 0), wrap64 (rd l2 1), t169, true)) else (some (0, 0, 0, ([] : List Int), false)))))) else (none)) else (none)) else (none)) else (none))) = some (r1, r2, r3, r4, r5) := h
 clear h
 by_cases c4 : (l2.length : Int) < 5
 ·rw [if_pos c4] at H
  have c4b0 : decide ((l2.length : Int) < 5) = true := decide_eq_true c4
  have c4b1 : decide (l2.length < 5) = true := decide_eq_true (by omega)
  clear c4
  simp only [Option.some.injEq, Prod.mk.injEq] at H
  obtain ⟨rfl, rfl, rfl, rfl, rfl⟩ := H
  go_enter Try.func21, Try.ntmps21
  go_wp2_with (first | ((with_reducible refine gate_dst (N := 6) rfl ?_); refine box_event ?hg (N := 6) ?hd (cs := #[.int .i64 0, .int .i64 0, .int .i64 0, .slice none 0 0]) (t := 27) ?hr ?_; (case hd => rfl); (case hg => rfl); (case hr => first | (go_simp; done) | (go_simp; rfl)); intro gb165 hg w5 hbox hb; have n0_ := mk_ (below_step (ub_ HB.out) hb); have n1_ := mk_ (hbox); have n2_ := mk_ ((by rw [hg]; exact (below_size (ub_ HB.out)) : w.heap.size ≤ gb165)); have n3_ := mk_ ((by rw [hg]; exact (below_size (ub_ HB.out)) : w.heap.size ≤ gb165)); clear HB; have HB := n0_; have BK165 := n1_; have GW165 := n2_; have GE165 := ge_ n3_.out; clear n0_ n1_ n2_ n3_; clear hb hbox hg; obtain ⟨hcz6_0, hcz6_1, hcz6_2, hcz6_3, hfz6_0, hfz6_1, hfz6_2, hfz6_3⟩ := cells4_ BK165.out))
  refine bodyPost_ret (results_ct rfl _ _ gb165 27 #[.int .i64 0, .int .i64 0, .int .i64 0, .slice none 0 0] (0, 0) _ rfl (by (with_reducible repeat (first | refine bn_ ?_ _ | refine bw_ ?_ | refine ba_ ?_ _)); refine blk_put (cs := #[.int .i64 0, .int .i64 0, .int .i64 0, .slice none 0 0]) ?_ 3 _ rfl; (with_reducible repeat (first | refine bn_ ?_ _ | refine bw_ ?_ | refine ba_ ?_ _)); refine blk_put (cs := #[.int .i64 0, .int .i64 0, .int .i64 0, .slice none 0 0]) ?_ 2 _ rfl; (with_reducible repeat (first | refine bn_ ?_ _ | refine bw_ ?_ | refine ba_ ?_ _)); refine blk_put (cs := #[.int .i64 0, .int .i64 0, .int .i64 0, .slice none 0 0]) ?_ 1 _ rfl; (with_reducible repeat (first | refine bn_ ?_ _ | refine bw_ ?_ | refine ba_ ?_ _)); refine blk_put (cs := #[.int .i64 0, .int .i64 0, .int .i64 0, .slice none 0 0]) ?_ 0 _ rfl; (with_reducible repeat (first | refine bn_ ?_ _ | refine bw_ ?_ | refine ba_ ?_ _)); exact BK165.out) Try.underlying27 rfl (by kernel_rfl)) rfl ?_
  exact ⟨_, by first | rfl | (simp [errW_none, errW_some] <;> rfl) | (simp [*, errW_none, errW_some] <;> rfl), by first | exact Kd.R_nil _ _ _ _ _ | exact Kd.N_nil _ _ _ _ _ | exact Kd.V_nil _ _ _ _ _ | exact Kd.Q_nil _ _ _ _ _ | exact Kd.S_nil _ _ _ _ _, us_ HB.out⟩
 rw [if_neg c4] at H
 have c4b0 : decide ((l2.length : Int) < 5) = false := decide_eq_false c4
 have c4b1 : decide (l2.length < 5) = false := decide_eq_false (by omega)
 clear c4
 by_cases c7 : 0 < (l2.length : Int)
 rotate_left
 ·rw [if_neg c7] at H
  exact absurd H (by simp)
 rw [if_pos c7] at H
 have c7b0 : decide (0 < (l2.length : Int)) = true := decide_eq_true c7
 have c7b1 : decide (0 < l2.length) = true := decide_eq_true (by omega)
 clear c7
 by_cases c8 : 1 < (l2.length : Int)
 rotate_left
 ·rw [if_neg c8] at H
  exact absurd H (by simp)
 rw [if_pos c8] at H
 have c8b0 : decide (1 < (l2.length : Int)) = true := decide_eq_true c8
 have c8b1 : decide (1 < l2.length) = true := decide_eq_true (by omega)
 clear c8
 by_cases c9 : 3 ≤ (wrap64 ((l2.length : Int) - 2))
 rotate_left
 ·rw [if_neg c9] at H
  exact absurd H (by simp)
 rw [if_pos c9] at H
 have c9b0 := eq_true c9
 have c9b1 : decide (3 ≤ (wrap64 ((l2.length : Int) - 2))) = true := decide_eq_true c9
 clear c9
 by_cases c10 : (wrap64 ((l2.length : Int) - 2)) ≤ (l2.length : Int)
 rotate_left
 ·rw [if_neg c10] at H
  exact absurd H (by simp)
 rw [if_pos c10] at H
 have c10b0 := eq_true c10
 have c10b1 : decide ((wrap64 ((l2.length : Int) - 2)) ≤ (l2.length : Int)) = true := decide_eq_true c10
 clear c10
 replace H := Option.bind_eq_some_iff.mp H
 obtain ⟨t169, A110, H⟩ := H
 replace H : ((impl_MailBytes.f k a0 (wrap64 (rd l2 0)) (wrap64 (rd l2 1)) t169 a1).bind fun t173 => ((slices_Equal_byte_byte.f k t173 l2).bind fun t176 => (if t176 = true then (some (a0, wrap64 (rd l2 0), wrap64 (rd l2 1), t169, true)) else (some (0, 0, 0, ([] : List Int), false))))) = some (r1, r2, r3, r4, r5) := H
 have A11 := mk_ A110
 clear A110
 replace H := Option.bind_eq_some_iff.mp H
 obtain ⟨t173, A120, H⟩ := H
 replace H : ((slices_Equal_byte_byte.f k t173 l2).bind fun t176 => (if t176 = true then (some (a0, wrap64 (rd l2 0), wrap64 (rd l2 1), t169, true)) else (some (0, 0, 0, ([] : List Int), false)))) = some (r1, r2, r3, r4, r5) := H
 have A12 := mk_ A120
 clear A120
 replace H := Option.bind_eq_some_iff.mp H
 obtain ⟨t176, A130, H⟩ := H
 replace H : (if t176 = true then (some (a0, wrap64 (rd l2 0), wrap64 (rd l2 1), t169, true)) else (some (0, 0, 0, ([] : List Int), false))) = some (r1, r2, r3, r4, r5) := H
 have A13 := mk_ A130
 clear A130
 by_cases c14 : t176 = true
 ·subst c14
  have H1 : (some (a0, wrap64 (rd l2 0), wrap64 (rd l2 1), t169, true)) = some (r1, r2, r3, r4, r5) := by rw [if_pos rfl] at H; exact H
  clear H
  have H := H1
  clear H1
  simp only [Option.some.injEq, Prod.mk.injEq] at H
  obtain ⟨rfl, rfl, rfl, rfl, rfl⟩ := H
  go_enter Try.func21, Try.ntmps21
  try go_wp2_with (first | ((with_reducible refine gate_dst (N := 6) rfl ?_); refine box_event ?hg (N := 6) ?hd (cs := #[.int .i64 0, .int .i64 0, .int .i64 0, .slice none 0 0]) (t := 27) ?hr ?_; (case hd => rfl); (case hg => rfl); (case hr => first | (go_simp; done) | (go_simp; rfl)); intro gb165 hg w15 hbox hb; have n0_ := mk_ (below_step (ub_ HB.out) hb); have n1_ := mk_ (hbox); have n2_ := mk_ ((by rw [hg]; exact (below_size (ub_ HB.out)) : w.heap.size ≤ gb165)); have n3_ := mk_ ((by rw [hg]; exact (below_size (ub_ HB.out)) : w.heap.size ≤ gb165)); clear HB; have HB := n0_; have BK165 := n1_; have GW165 := n2_; have GE165 := ge_ n3_.out; clear n0_ n1_ n2_ n3_; clear hb hbox hg))
  have n0_ := mk_ (blk_drew BK165.out)
  have n1_ := mk_ (below_drew1 HB.out)
  clear BK165
  clear HB
  have BK165 := n0_
  have HB := n1_
  clear n0_ n1_
  have p166 : 0 ≤ (0 : Int) := (by omega)
  have q166 : 0 < (l2.length : Int) := of_decide_eq_true (by first | (with_reducible assumption) | assumption)
  obtain ⟨ad166, e166, hx166_0⟩ := Kd.at_int HR2.out 0 p166 q166
  have hw166_0 := hx166_0
  (try rw [show ((0 : Int)).toNat = 0 from rfl] at hw166_0)
  (try rw [show 0 * 1 = 0 from rfl] at hw166_0)
  (try rw [Addr.add_zero'] at hw166_0)
  cases e166
  have qi166 : (0 < l2.length) = True := eq_true (by omega)
  (try rw [show ((0 : Int)).toNat = 0 from rfl] at hx166_0)
  (try rw [Addr.add_zero'] at hx166_0)
  replace hx166_0 := (HB.out.cell (lc_ w _ hx166_0)).trans hx166_0
  replace p166 := eq_true p166
  replace q166 := eq_true q166
  have p167 : 0 ≤ (1 : Int) := (by omega)
  have q167 : 1 < (l2.length : Int) := of_decide_eq_true (by first | (with_reducible assumption) | assumption)
  obtain ⟨ad167, e167, hx167_0⟩ := Kd.at_int HR2.out 1 p167 q167
  have hw167_0 := hx167_0
  (try rw [show ((1 : Int)).toNat = 1 from rfl] at hw167_0)
  (try rw [show 1 * 1 = 1 from rfl] at hw167_0)
  (try simp only [Nat.reduceMul, Nat.reduceEqDiff, Go.Addr.add, ↓reduceIte] at hw167_0)
  obtain rfl : ad166 = ad167 := (by injection e167)
  (try simp only [show (1 : Int).toNat = 1 from rfl, Nat.reduceMul, Nat.reduceEqDiff, Go.Addr.add, ↓reduceIte] at hx167_0)
  have qi167 : (1 < l2.length) = True := eq_true (by omega)
  (try rw [show ((1 : Int)).toNat = 1 from rfl] at hx167_0)
  replace hx167_0 := (HB.out.cell (lc_ w _ hx167_0)).trans hx167_0
  replace p167 := eq_true p167
  replace q167 := eq_true q167
  obtain ⟨i017, hi017, _, hsz17, _⟩ := info_parts info5
  obtain ⟨A17, hcut17, hA17, hC17⟩ := print_mid_of (P := Try.prog) (Value.int .u8) 0 22 5 .i64 .i64 Try.underlying22 hi017 hsz17 (some ad166) c2 l2 3 (wrap64 ((l2.length : Int) - 2)) (by omega) (by first | omega | exact of_decide_eq_true (by first | (with_reducible assumption) | assumption)) (of_decide_eq_true (by first | (with_reducible assumption) | assumption)) HC2.out
  have HR168 := mk_ (Kd.C_of_reads (h1 := fun _ => rfl) (hA17 _ (Kd.reads_of_C HR2.out)))
  have HC168 := mk_ hC17
  clear hA17 hC17 hi017 hsz17
  refine start_ (n := 18) (S := fun w' => w'.cell? ad166 = some (.int .u8 (rd l2 0)) ∧ w'.cell? ⟨ad166.block, ad166.off + 1, none⟩ = some (.int .u8 (rd l2 1))) (ds := []) #[F_, F_, F_, F_, F_, F_, F_, F_, F_, F_, F_, F_, F_, F_, F_, F_, F_, F_] (by kernel_rfl) rfl rfl ⟨((HB.out.cell (lc_ w _ hw166_0)).trans hw166_0), ((HB.out.cell (lc_ w _ hw167_0)).trans hw167_0)⟩ (fun hHeld => ?_); refine with_tabW impl_MailFrom.tab3 impl_MailFrom.bits3 (fun HT_ HW_ => ?_)
  generalize w15.drew = w16 at BK165 HB HR168 hx166_0 hx167_0 hHeld ⊢
  refine pure_ (i := 0) (N := some 13) (v := ?_) (a' := ?_) #[T_, F_, F_, F_, F_, F_, F_, F_, F_, F_, F_, F_, F_, F_, F_, F_, F_, F_] rfl rfl (any_of HT_.out (by kernel_rfl)) (fun _ _ _ h => h) (Or.inl ⟨by rfl, ?_⟩) ?_ ?_
  rotate_left
  ·intro w'
   go_simp
   with_reducible rfl
  rotate_left
  ·simp only [Act.put, la_, lz_, ls_, i64_w, i32_w]
   rfl
  refine pure_ (i := 1) (N := some 14) (v := ?_) (a' := ?_) #[T_, T_, F_, F_, F_, F_, F_, F_, F_, F_, F_, F_, F_, F_, F_, F_, F_, F_] rfl rfl (any_of HT_.out (by kernel_rfl)) (fun _ _ _ h => h) (Or.inl ⟨by rfl, ?_⟩) ?_ ?_
  rotate_left
  ·intro w'
   go_simp
   with_reducible rfl
  rotate_left
  ·simp only [Act.put, la_, lz_, ls_, i64_w, i32_w]
   rfl
  refine pure_ (i := 2) (N := some 15) (v := ?_) (a' := ?_) #[T_, T_, T_, F_, F_, F_, F_, F_, F_, F_, F_, F_, F_, F_, F_, F_, F_, F_] rfl rfl (any_of HT_.out (by kernel_rfl)) (fun _ _ _ h => h) (Or.inl ⟨by rfl, ?_⟩) ?_ ?_
  rotate_left
  ·intro w'
   go_simp
   with_reducible rfl
  rotate_left
  ·simp only [Act.put, la_, lz_, ls_, i64_w, i32_w]
   rfl
  refine pure_ (i := 5) (N := some 18) (v := ?_) (a' := ?_) #[T_, T_, T_, F_, F_, T_, F_, F_, F_, F_, F_, F_, F_, F_, F_, F_, F_, F_] rfl rfl (any_of HT_.out (by kernel_rfl)) (fun _ _ _ h => h) (Or.inl ⟨by rfl, ?_⟩) ?_ ?_
  rotate_left
  ·intro w'
   go_simp
   with_reducible rfl
  rotate_left
  ·simp only [Act.put, la_, lz_, ls_, i64_w, i32_w]
   rfl
  refine pure_ (i := 6) (N := some 19) (v := ?_) (a' := ?_) #[T_, T_, T_, F_, F_, T_, T_, F_, F_, F_, F_, F_, F_, F_, F_, F_, F_, F_] rfl rfl (any_of HT_.out (by kernel_rfl)) (fun _ _ _ h => h) (Or.inl ⟨by rfl, ?_⟩) ?_ ?_
  rotate_left
  ·intro w'
   go_simp
   with_reducible rfl
  rotate_left
  ·simp only [Act.put, la_, lz_, ls_, i64_w, i32_w]
   rfl
  refine pure_ (i := 9) (N := some 22) (v := ?_) (a' := ?_) #[T_, T_, T_, F_, F_, T_, T_, F_, F_, T_, F_, F_, F_, F_, F_, F_, F_, F_] rfl rfl (any_of HT_.out (by kernel_rfl)) (fun _ _ _ h => h) (Or.inl ⟨by rfl, ?_⟩) ?_ ?_
  rotate_left
  ·intro w'
   go_simp
   with_reducible rfl
  rotate_left
  ·simp only [Act.put, la_, lz_, ls_, i64_w, i32_w]
   rfl
  refine pure_ (i := 10) (N := some 23) (v := ?_) (a' := ?_) #[T_, T_, T_, F_, F_, T_, T_, F_, F_, T_, T_, F_, F_, F_, F_, F_, F_, F_] rfl rfl (any_of HT_.out (by kernel_rfl)) (fun _ _ _ h => h) (Or.inl ⟨by rfl, ?_⟩) ?_ ?_
  rotate_left
  ·intro w'
   go_simp
   with_reducible rfl
  rotate_left
  ·simp only [Act.put, la_, lz_, ls_, i64_w, i32_w]
   rfl
  refine pure_ (i := 11) (N := some 24) (v := ?_) (a' := ?_) #[T_, T_, T_, F_, F_, T_, T_, F_, F_, T_, T_, T_, F_, F_, F_, F_, F_, F_] rfl rfl (any_of HT_.out (by kernel_rfl)) (fun _ _ _ h => h) (Or.inl ⟨by rfl, ?_⟩) ?_ ?_
  rotate_left
  ·intro w'
   go_simp
   with_reducible rfl
  rotate_left
  ·simp only [Act.put, la_, lz_, ls_, i64_w, i32_w]
   rfl
  refine pure_ (i := 12) (N := some 25) (v := ?_) (a' := ?_) #[T_, T_, T_, F_, F_, T_, T_, F_, F_, T_, T_, T_, T_, F_, F_, F_, F_, F_] rfl rfl (any_of HT_.out (by kernel_rfl)) (fun _ _ _ h => h) (Or.inl ⟨by rfl, ?_⟩) ?_ ?_
  rotate_left
  ·intro w'
   go_simp
   with_reducible rfl
  rotate_left
  ·simp only [Act.put, la_, lz_, ls_, i64_w, i32_w]
   rfl
  refine pure_ (i := 13) (N := some 26) (v := ?_) (a' := ?_) #[T_, T_, T_, F_, F_, T_, T_, F_, F_, T_, T_, T_, T_, T_, F_, F_, F_, F_] rfl rfl (any_of HT_.out (by kernel_rfl)) (fun _ _ _ h => h) (Or.inl ⟨by rfl, ?_⟩) ?_ ?_
  rotate_left
  ·intro w'
   go_simp
   with_reducible rfl
  rotate_left
  ·simp only [Act.put, la_, lz_, ls_, i64_w, i32_w]
   rfl
  refine take_ (i := 3) (N := some 16) (v := ?_) (a' := ?_) #[T_, T_, T_, T_, F_, T_, T_, F_, F_, T_, T_, T_, T_, T_, F_, F_, F_, F_] rfl rfl (take_ofW HT_.out HW_.out (by kernel_rfl)) (fun _ _ _ h => h) (Or.inl ⟨by rfl, ?_⟩) hHeld ?_ ?_
  rotate_left
  ·rintro w' ⟨s0, s1⟩
   go_simp
   with_reducible rfl
  rotate_left
  ·simp only [Act.put, la_, lz_, ls_, i64_w, i32_w]
   rfl
  refine pure_ (i := 4) (N := some 17) (v := ?_) (a' := ?_) #[T_, T_, T_, T_, T_, T_, T_, F_, F_, T_, T_, T_, T_, T_, F_, F_, F_, F_] rfl rfl (any_of HT_.out (by kernel_rfl)) (fun _ _ _ h => h) (Or.inl ⟨by rfl, ?_⟩) ?_ ?_
  rotate_left
  ·intro w'
   go_simp
   with_reducible rfl
  rotate_left
  ·simp only [Act.put, la_, lz_, ls_, i64_w, i32_w]
   rfl
  refine take_ (i := 7) (N := some 20) (v := ?_) (a' := ?_) #[T_, T_, T_, T_, T_, T_, T_, T_, F_, T_, T_, T_, T_, T_, F_, F_, F_, F_] rfl rfl (take_ofW HT_.out HW_.out (by kernel_rfl)) (fun _ _ _ h => h) (Or.inl ⟨by rfl, ?_⟩) hHeld ?_ ?_
  rotate_left
  ·rintro w' ⟨s0, s1⟩
   go_simp
   with_reducible rfl
  rotate_left
  ·simp only [Act.put, la_, lz_, ls_, i64_w, i32_w]
   rfl
  refine pure_ (i := 8) (N := some 21) (v := ?_) (a' := ?_) #[T_, T_, T_, T_, T_, T_, T_, T_, T_, T_, T_, T_, T_, T_, F_, F_, F_, F_] rfl rfl (any_of HT_.out (by kernel_rfl)) (fun _ _ _ h => h) (Or.inl ⟨by rfl, ?_⟩) ?_ ?_
  rotate_left
  ·intro w'
   go_simp
   with_reducible rfl
  rotate_left
  ·simp only [Act.put, la_, lz_, ls_, i64_w, i32_w]
   rfl
  refine join_ (σ := Value × Nat) 1 #[T_, T_, T_, T_, T_, T_, T_, T_, T_, T_, T_, T_, T_, T_, T_, T_, T_, F_] (fun s_ => [(27, s_.1), (8, .pointer (some ⟨s_.2, 0, none⟩)), (28, .agg #[.int .i64 a0, .int .i64 (wrap64 (rd l2 0)), .int .i64 (wrap64 (rd l2 1)), s_.1])]) (fun s_ w' => (w'.cell? ad166 = some (.int .u8 (rd l2 0)) ∧ w'.cell? ⟨ad166.block, ad166.off + 1, none⟩ = some (.int .u8 (rd l2 1))) ∧ (Kd.R (Kd.int .u8) 5 w' w.heap.size (fun _ => True) s_.1 t169) ∧ (w'.heap[gb165]? = some (.cells #[.int .i64 0, .int .i64 0, .int .i64 0, .slice none 0 0] 27 (0, 0))) ∧ (w'.heap[s_.2]? = some (.cells #[.int .i64 0, .int .i64 0, .int .i64 0, .slice none 0 0] 27 (0, 0))) ∧ (w.heap.size ≤ s_.2) ∧ (w.heap.size ≤ s_.2) ∧ (gb165 ≠ s_.2) ∧ (s_.2 ≠ gb165) ∧ (Below w.heap.size w w')) ?_ ?_
  rotate_left
  ·intro hCont
   refine two_ (i := 14) (j := 16) (Ni := some 27) (Nj := some 8) #[T_, T_, T_, T_, T_, T_, T_, T_, T_, T_, T_, T_, T_, T_, T_, F_, F_, F_] #[T_, T_, T_, T_, T_, T_, T_, T_, T_, T_, T_, T_, T_, T_, F_, F_, T_, F_] rfl rfl rfl rfl (two_of HT_.out (by kernel_rfl)) (by decide) (by decide) (fun K hK => ?_) (fun K hK => ?_)
   ·skip
    refine goes_ Try.func48 (by kernel_rfl) rfl #[.slice A17 ((l2.take ((wrap64 ((l2.length : Int) - 2)) : Int).toNat).drop 3).length (c2 - 3)] (by rfl) rfl rfl (by (try simp only [List.map_toArray, List.map_cons, List.map_nil]); first | done | (rw [show ((l2.take ((wrap64 ((l2.length : Int) - 2)) : Int).toNat).drop 3).length = ((wrap64 ((l2.length : Int) - 2)).toNat - 3) from (by rw [List.length_drop, List.length_take]; have h_ : ((wrap64 ((l2.length : Int) - 2)) : Int) ≤ (l2.length : Int) := of_decide_eq_true (by first | (with_reducible assumption) | assumption); omega)] <;> rfl) | rfl | (simp only [List.length_drop, List.length_take]; rfl)) ?_
    with_reducible refine (impl_clone_byte.calls _ _ ((l2.take ((wrap64 ((l2.length : Int) - 2)) : Int).toNat).drop 3) t169 _ ?side1 ?side2 A11.out).mono ?_
    (case side1 => repeat (first | exact (Kd.C_below HR168.out HB.out) | (with_reducible refine Kd.C_alloc ?_ _) | (with_reducible refine Kd.C_drewN ?_ _) | (with_reducible refine Kd.C_drew ?_)))
    (case side2 => exact HC168.out)
    rintro e w18 ⟨v170, rfl, ho0, hb⟩
    refine ⟨_, rfl, ?_⟩
    have n0_ := mk_ (Kd.R_lower ho0 (below_size (us_ HB.out)))
    have n1_ := mk_ (blk_below (u_ BK165.out) hb)
    have n2_ := mk_ (below_step (us_ HB.out) hb)
    clear BK165
    clear HB
    have HO171 := n0_
    have BK165 := n1_
    have HB := n2_
    clear n0_ n1_ n2_
    (try clear hb)
    (try clear hb2)
    (try clear hk)
    (try clear hi)
    (try clear ho0)
    obtain ⟨Ao19, co19, eo19⟩ := Kd.R_slice HO171.out
    (first | subst eo19 | (injection eo19 with f1_ f2_ f3_; have f4_ := f1_.symm; have f5_ := f3_.symm; clear f1_ f2_ f3_; subst f4_; subst f5_))
    refine hK.out _ _ ⟨((HB.out.cell (lc_ w _ hw166_0)).trans hw166_0), ((HB.out.cell (lc_ w _ hw167_0)).trans hw167_0)⟩ (fun hHeld => ?_)
    clear hK K
    refine norm_ (a' := ?_) ?_ ?_
    rotate_left
    ·show Act.put _ (some 27) _ = _
     simp only [Act.put, la_, lz_, ls_, i64_w, i32_w]
     rfl
    refine pure_ (i := 15) (N := some 28) (v := ?_) (a' := ?_) #[T_, T_, T_, T_, T_, T_, T_, T_, T_, T_, T_, T_, T_, T_, T_, T_, F_, F_] rfl rfl (any_of HT_.out (by kernel_rfl)) (fun _ _ _ h => h) (Or.inl ⟨by rfl, ?_⟩) ?_ ?_
    rotate_left
    ·intro w'
     go_simp
     with_reducible rfl
    rotate_left
    ·simp only [Act.put, la_, lz_, ls_, i64_w, i32_w]
     rfl
    refine one_ (i := 16) (N := some 8) #[T_, T_, T_, T_, T_, T_, T_, T_, T_, T_, T_, T_, T_, T_, T_, T_, T_, F_] rfl rfl (one_of HT_.out (by kernel_rfl)) (by decide) (fun K hK => ?_)
    refine box_step ?hg (N := 8) ?hd (cs := #[.int .i64 0, .int .i64 0, .int .i64 0, .slice none 0 0]) (t := 27) ?hr ?_; (case hd => rfl); (case hg => rfl); (case hr => first | (go_simp; done) | (go_simp; rfl))
    intro gb172 hg w20 hbox hb
    have n0_ := mk_ (Kd.R_below (Kd.ur_ HO171.out) hb)
    have n1_ := mk_ (blk_below (u_ BK165.out) hb)
    have n2_ := mk_ (below_step (us_ HB.out) hb)
    have n3_ := mk_ (hbox)
    have n4_ := mk_ ((by rw [hg]; exact (below_size (us_ HB.out)) : w.heap.size ≤ gb172))
    have n5_ := mk_ ((by rw [hg]; exact (below_size (us_ HB.out)) : w.heap.size ≤ gb172))
    have n6_ := mk_ ((by rw [hg]; exact Nat.ne_of_lt (blk_lt (u_ BK165.out)) : gb165 ≠ gb172))
    have n7_ := mk_ ((by rw [hg]; exact Nat.ne_of_gt (blk_lt (u_ BK165.out)) : gb172 ≠ gb165))
    clear HO171
    clear BK165
    clear HB
    have HO171 := n0_
    have BK165 := n1_
    have HB := n2_
    have BK172 := n3_
    have GW172 := n4_
    have GE172 := ge_ n5_.out
    have NB165_172 := nq_ n6_.out
    have NB172_165 := nq_ n7_.out
    clear n0_ n1_ n2_ n3_ n4_ n5_ n6_ n7_
    clear hb hbox hg
    refine hK.out _ _ ⟨((HB.out.cell (lc_ w _ hw166_0)).trans hw166_0), ((HB.out.cell (lc_ w _ hw167_0)).trans hw167_0)⟩ (fun hHeld => ?_)
    clear hK K
    refine norm_ (a' := ?_) ?_ ?_
    rotate_left
    ·show Act.put _ (some 8) _ = _
     simp only [Act.put, la_, lz_, ls_, i64_w, i32_w]
     rfl
    exact norm_ (by simp only [putAll, Act.put, la_, lz_, ls_]) (hCont (.slice Ao19 t169.length co19, gb172) _ ⟨hHeld, (Kd.ur_ HO171.out), (u_ BK165.out), (u_ BK172.out), GW172.out, GE172.out, NB165_172.out, NB172_165.out, (us_ HB.out)⟩)
   skip
   refine box_step ?hg (N := 8) ?hd (cs := #[.int .i64 0, .int .i64 0, .int .i64 0, .slice none 0 0]) (t := 27) ?hr ?_; (case hd => rfl); (case hg => rfl); (case hr => first | (go_simp; done) | (go_simp; rfl))
   intro gb172 hg w18 hbox hb
   have n0_ := mk_ (blk_below (u_ BK165.out) hb)
   have n1_ := mk_ (below_step (us_ HB.out) hb)
   have n2_ := mk_ (hbox)
   have n3_ := mk_ ((by rw [hg]; exact (below_size (us_ HB.out)) : w.heap.size ≤ gb172))
   have n4_ := mk_ ((by rw [hg]; exact (below_size (us_ HB.out)) : w.heap.size ≤ gb172))
   have n5_ := mk_ ((by rw [hg]; exact Nat.ne_of_lt (blk_lt (u_ BK165.out)) : gb165 ≠ gb172))
   have n6_ := mk_ ((by rw [hg]; exact Nat.ne_of_gt (blk_lt (u_ BK165.out)) : gb172 ≠ gb165))
   clear BK165
   clear HB
   have BK165 := n0_
   have HB := n1_
   have BK172 := n2_
   have GW172 := n3_
   have GE172 := ge_ n4_.out
   have NB165_172 := nq_ n5_.out
   have NB172_165 := nq_ n6_.out
   clear n0_ n1_ n2_ n3_ n4_ n5_ n6_
   clear hb hbox hg
   refine hK.out _ _ ⟨((HB.out.cell (lc_ w _ hw166_0)).trans hw166_0), ((HB.out.cell (lc_ w _ hw167_0)).trans hw167_0)⟩ (fun hHeld => ?_)
   clear hK K
   refine norm_ (a' := ?_) ?_ ?_
   rotate_left
   ·show Act.put _ (some 8) _ = _
    simp only [Act.put, la_, lz_, ls_, i64_w, i32_w]
    rfl
   refine one_ (i := 14) (N := some 27) #[T_, T_, T_, T_, T_, T_, T_, T_, T_, T_, T_, T_, T_, T_, T_, F_, T_, F_] rfl rfl (one_of HT_.out (by kernel_rfl)) (by decide) (fun K hK => ?_)
   refine goes_ Try.func48 (by kernel_rfl) rfl #[.slice A17 ((l2.take ((wrap64 ((l2.length : Int) - 2)) : Int).toNat).drop 3).length (c2 - 3)] (by rfl) rfl rfl (by (try simp only [List.map_toArray, List.map_cons, List.map_nil]); first | done | (rw [show ((l2.take ((wrap64 ((l2.length : Int) - 2)) : Int).toNat).drop 3).length = ((wrap64 ((l2.length : Int) - 2)).toNat - 3) from (by rw [List.length_drop, List.length_take]; have h_ : ((wrap64 ((l2.length : Int) - 2)) : Int) ≤ (l2.length : Int) := of_decide_eq_true (by first | (with_reducible assumption) | assumption); omega)] <;> rfl) | rfl | (simp only [List.length_drop, List.length_take]; rfl)) ?_
   with_reducible refine (impl_clone_byte.calls _ _ ((l2.take ((wrap64 ((l2.length : Int) - 2)) : Int).toNat).drop 3) t169 _ ?side1 ?side2 A11.out).mono ?_
   (case side1 => repeat (first | exact (Kd.C_below HR168.out HB.out) | (with_reducible refine Kd.C_alloc ?_ _) | (with_reducible refine Kd.C_drewN ?_ _) | (with_reducible refine Kd.C_drew ?_)))
   (case side2 => exact HC168.out)
   rintro e w19 ⟨v170, rfl, ho0, hb⟩
   refine ⟨_, rfl, ?_⟩
   have n0_ := mk_ (Kd.R_lower ho0 (below_size (us_ HB.out)))
   have n1_ := mk_ (blk_below (u_ BK165.out) hb)
   have n2_ := mk_ (blk_below (u_ BK172.out) hb)
   have n3_ := mk_ (below_step (us_ HB.out) hb)
   clear BK165
   clear BK172
   clear HB
   have HO171 := n0_
   have BK165 := n1_
   have BK172 := n2_
   have HB := n3_
   clear n0_ n1_ n2_ n3_
   (try clear hb)
   (try clear hb2)
   (try clear hk)
   (try clear hi)
   (try clear ho0)
   obtain ⟨Ao20, co20, eo20⟩ := Kd.R_slice HO171.out
   (first | subst eo20 | (injection eo20 with f1_ f2_ f3_; have f4_ := f1_.symm; have f5_ := f3_.symm; clear f1_ f2_ f3_; subst f4_; subst f5_))
   refine hK.out _ _ ⟨((HB.out.cell (lc_ w _ hw166_0)).trans hw166_0), ((HB.out.cell (lc_ w _ hw167_0)).trans hw167_0)⟩ (fun hHeld => ?_)
   clear hK K
   refine norm_ (a' := ?_) ?_ ?_
   rotate_left
   ·show Act.put _ (some 27) _ = _
    simp only [Act.put, la_, lz_, ls_, i64_w, i32_w]
    rfl
   refine pure_ (i := 15) (N := some 28) (v := ?_) (a' := ?_) #[T_, T_, T_, T_, T_, T_, T_, T_, T_, T_, T_, T_, T_, T_, T_, T_, T_, F_] rfl rfl (any_of HT_.out (by kernel_rfl)) (fun _ _ _ h => h) (Or.inl ⟨by rfl, ?_⟩) ?_ ?_
   rotate_left
   ·intro w'
    go_simp
    with_reducible rfl
   rotate_left
   ·simp only [Act.put, la_, lz_, ls_, i64_w, i32_w]
    rfl
   exact norm_ (by simp only [putAll, Act.put, la_, lz_, ls_]) (hCont (.slice Ao20 t169.length co20, gb172) _ ⟨hHeld, (Kd.ur_ HO171.out), (u_ BK165.out), (u_ BK172.out), GW172.out, GE172.out, NB165_172.out, NB172_165.out, (us_ HB.out)⟩)
  rintro ⟨v170, gb172⟩ w21 ⟨hS_, h0_, h1_, h2_, h3_, h4_, h5_, h6_, h7_⟩
  have n0_ : Aside0 (Kd.R (Kd.int .u8) 5 w21 w.heap.size (fun _ => True) v170 t169) := ⟨h0_⟩
  have n1_ : Aside0 (w21.heap[gb165]? = some (.cells #[.int .i64 0, .int .i64 0, .int .i64 0, .slice none 0 0] 27 (0, 0))) := ⟨h1_⟩
  have n2_ : Aside0 (w21.heap[gb172]? = some (.cells #[.int .i64 0, .int .i64 0, .int .i64 0, .slice none 0 0] 27 (0, 0))) := ⟨h2_⟩
  have n3_ : Aside0 (w.heap.size ≤ gb172) := ⟨h3_⟩
  have n4_ : Aside0 (w.heap.size ≤ gb172) := ⟨h4_⟩
  have n5_ : Aside0 (gb165 ≠ gb172) := ⟨h5_⟩
  have n6_ : Aside0 (gb172 ≠ gb165) := ⟨h6_⟩
  have n7_ : Aside0 (Below w.heap.size w w21) := ⟨h7_⟩
  clear BK165
  clear HB
  clear h0_ h1_ h2_ h3_ h4_ h5_ h6_ h7_
  have HO171 := n0_
  have BK165 := n1_
  have BK172 := n2_
  have GW172 := n3_
  have GE172 := ge_ n4_.out
  have NB165_172 := nq_ n5_.out
  have NB172_165 := nq_ n6_.out
  have HB := n7_
  clear n0_ n1_ n2_ n3_ n4_ n5_ n6_ n7_
  have hHeld : w21.cell? ad166 = some (.int .u8 (rd l2 0)) ∧ w21.cell? ⟨ad166.block, ad166.off + 1, none⟩ = some (.int .u8 (rd l2 1)) := hS_
  obtain ⟨Ao22, co22, eo22⟩ := Kd.R_slice HO171.out
  (first | subst eo22 | (injection eo22 with f1_ f2_ f3_; have f4_ := f1_.symm; have f5_ := f3_.symm; clear f1_ f2_ f3_; subst f4_; subst f5_))
  refine norm_ (a' := ?_) ?_ ?_
  rotate_left
  ·simp only [putAll, Act.put, la_, lz_, ls_]
   rfl
  refine one_ (i := 17) (N := none) #[T_, T_, T_, T_, T_, T_, T_, T_, T_, T_, T_, T_, T_, T_, T_, T_, T_, T_] rfl rfl (one_of HT_.out (by kernel_rfl)) (by decide) (fun K hK => ?_)
  have hs23 : w21.cell? ⟨gb172, 0, none⟩ = some (.int .i64 0) := (blk_cell BK172.out 0).trans rfl
  have hfs23 := blk_frozen BK172.out 0
  have hns23_0 := NB165_172.out
  have hms23_0 := NB172_165.out
  have hs24 : w21.cell? ⟨gb172, 1, none⟩ = some (.int .i64 0) := (blk_cell BK172.out 1).trans rfl
  have hfs24 := blk_frozen BK172.out 1
  have hns24_0 := NB165_172.out
  have hms24_0 := NB172_165.out
  have hs25 : w21.cell? ⟨gb172, 2, none⟩ = some (.int .i64 0) := (blk_cell BK172.out 2).trans rfl
  have hfs25 := blk_frozen BK172.out 2
  have hns25_0 := NB165_172.out
  have hms25_0 := NB172_165.out
  have hs26 : w21.cell? ⟨gb172, 3, none⟩ = some (.slice none 0 0) := (blk_cell BK172.out 3).trans rfl
  have hfs26 := blk_frozen BK172.out 3
  have hns26_0 := NB165_172.out
  have hms26_0 := NB172_165.out
  refine skip_ (w1 := ?_) (by rfl) rfl ?_ ?_
  rotate_left
  ·go_simp
   rfl
  refine hK.out _ _ ⟨((cell_far (p := ⟨gb172, _, none⟩) (by first | exact (ne1_ (by have := lc_ _ _ hw166_0; first | rwa [add_block] at this | exact this) GW172.out) | (rw [add_block]; exact (ne1_ (by have := lc_ _ _ hw166_0; first | rwa [add_block] at this | exact this) GW172.out)) | (show (Addr.add _ _).block ≠ _; rw [add_block]; exact (ne1_ (by have := lc_ _ _ hw166_0; first | rwa [add_block] at this | exact this) GW172.out)) | (dsimp only; exact (ne1_ (by have := lc_ _ _ hw166_0; first | rwa [add_block] at this | exact this) GW172.out))) _).trans (((cell_far (p := ⟨gb172, _, none⟩) (by first | exact (ne1_ (by have := lc_ _ _ hw166_0; first | rwa [add_block] at this | exact this) GW172.out) | (rw [add_block]; exact (ne1_ (by have := lc_ _ _ hw166_0; first | rwa [add_block] at this | exact this) GW172.out)) | (show (Addr.add _ _).block ≠ _; rw [add_block]; exact (ne1_ (by have := lc_ _ _ hw166_0; first | rwa [add_block] at this | exact this) GW172.out)) | (dsimp only; exact (ne1_ (by have := lc_ _ _ hw166_0; first | rwa [add_block] at this | exact this) GW172.out))) _).trans (((cell_far (p := ⟨gb172, _, none⟩) (by first | exact (ne1_ (by have := lc_ _ _ hw166_0; first | rwa [add_block] at this | exact this) GW172.out) | (rw [add_block]; exact (ne1_ (by have := lc_ _ _ hw166_0; first | rwa [add_block] at this | exact this) GW172.out)) | (show (Addr.add _ _).block ≠ _; rw [add_block]; exact (ne1_ (by have := lc_ _ _ hw166_0; first | rwa [add_block] at this | exact this) GW172.out)) | (dsimp only; exact (ne1_ (by have := lc_ _ _ hw166_0; first | rwa [add_block] at this | exact this) GW172.out))) _).trans (((cell_far (p := ⟨gb172, _, none⟩) (by first | exact (ne1_ (by have := lc_ _ _ hw166_0; first | rwa [add_block] at this | exact this) GW172.out) | (rw [add_block]; exact (ne1_ (by have := lc_ _ _ hw166_0; first | rwa [add_block] at this | exact this) GW172.out)) | (show (Addr.add _ _).block ≠ _; rw [add_block]; exact (ne1_ (by have := lc_ _ _ hw166_0; first | rwa [add_block] at this | exact this) GW172.out)) | (dsimp only; exact (ne1_ (by have := lc_ _ _ hw166_0; first | rwa [add_block] at this | exact this) GW172.out))) _).trans (hHeld.1)))))))), ((cell_far (p := ⟨gb172, _, none⟩) (by first | exact (ne1_ (by have := lc_ _ _ hw167_0; first | rwa [add_block] at this | exact this) GW172.out) | (rw [add_block]; exact (ne1_ (by have := lc_ _ _ hw167_0; first | rwa [add_block] at this | exact this) GW172.out)) | (show (Addr.add _ _).block ≠ _; rw [add_block]; exact (ne1_ (by have := lc_ _ _ hw167_0; first | rwa [add_block] at this | exact this) GW172.out)) | (dsimp only; exact (ne1_ (by have := lc_ _ _ hw167_0; first | rwa [add_block] at this | exact this) GW172.out))) _).trans (((cell_far (p := ⟨gb172, _, none⟩) (by first | exact (ne1_ (by have := lc_ _ _ hw167_0; first | rwa [add_block] at this | exact this) GW172.out) | (rw [add_block]; exact (ne1_ (by have := lc_ _ _ hw167_0; first | rwa [add_block] at this | exact this) GW172.out)) | (show (Addr.add _ _).block ≠ _; rw [add_block]; exact (ne1_ (by have := lc_ _ _ hw167_0; first | rwa [add_block] at this | exact this) GW172.out)) | (dsimp only; exact (ne1_ (by have := lc_ _ _ hw167_0; first | rwa [add_block] at this | exact this) GW172.out))) _).trans (((cell_far (p := ⟨gb172, _, none⟩) (by first | exact (ne1_ (by have := lc_ _ _ hw167_0; first | rwa [add_block] at this | exact this) GW172.out) | (rw [add_block]; exact (ne1_ (by have := lc_ _ _ hw167_0; first | rwa [add_block] at this | exact this) GW172.out)) | (show (Addr.add _ _).block ≠ _; rw [add_block]; exact (ne1_ (by have := lc_ _ _ hw167_0; first | rwa [add_block] at this | exact this) GW172.out)) | (dsimp only; exact (ne1_ (by have := lc_ _ _ hw167_0; first | rwa [add_block] at this | exact this) GW172.out))) _).trans (((cell_far (p := ⟨gb172, _, none⟩) (by first | exact (ne1_ (by have := lc_ _ _ hw167_0; first | rwa [add_block] at this | exact this) GW172.out) | (rw [add_block]; exact (ne1_ (by have := lc_ _ _ hw167_0; first | rwa [add_block] at this | exact this) GW172.out)) | (show (Addr.add _ _).block ≠ _; rw [add_block]; exact (ne1_ (by have := lc_ _ _ hw167_0; first | rwa [add_block] at this | exact this) GW172.out)) | (dsimp only; exact (ne1_ (by have := lc_ _ _ hw167_0; first | rwa [add_block] at this | exact this) GW172.out))) _).trans (hHeld.2))))))))⟩ (fun hHeld => ?_)
  clear hK K
  refine done_ (done_of HT_.out (by kernel_rfl)) ?_
  have hnb27 := NB172_165.out
  have hnc27 := NB165_172.out
  obtain ⟨hcz28_0, hcz28_1, hcz28_2, hcz28_3, hfz28_0, hfz28_1, hfz28_2, hfz28_3⟩ := cells4_ BK172.out
  try go_wp2_with (first | ((with_reducible refine gate_callee (f := 12) rfl ?_); refine goesL_ (some 31) rfl rfl Try.func12 (by kernel_rfl) rfl #[.agg #[.int .i64 a0, .int .i64 (wrap64 (rd l2 0)), .int .i64 (wrap64 (rd l2 1)), .slice Ao22 t169.length co22], .int .i64 a1] rfl (by (try simp only [lm_, lo_, ln_]); first | done | rfl | (simp only [List.length_drop, List.length_take]; rfl)) ?_; (with_reducible refine (impl_MailBytes.calls k a0 (wrap64 (rd l2 0)) (wrap64 (rd l2 1)) _ _ t169 a1 t173 _ ?side1 ?side2 A12.out).mono ?_); (case side1 => refine (Kd.R_reads' (e := 5) (base := w.heap.size) (ok := fun k_ => True) (n := t169.length) (c := co22) ?_).2.2; exact (by (with_reducible repeat (first | apply Kd.R_alloc | apply Kd.R_drewN | apply Kd.R_drew)); exact (Kd.R_mono (Kd.R_far (p := ⟨gb172, 3, none⟩) (Kd.R_far (p := ⟨gb172, 2, none⟩) (Kd.R_far (p := ⟨gb172, 1, none⟩) (Kd.R_far (p := ⟨gb172, 0, none⟩) (Kd.R_types HO171.out BK172.out (by decide)) (fun _ hk => hk.2) (.int .i64 a0)) (fun _ hk => hk.2) (.int .i64 (wrap64 (rd l2 0)))) (fun _ hk => hk.2) (.int .i64 (wrap64 (rd l2 1)))) (fun _ hk => hk.2) (.slice Ao22 t169.length co22)) (fun _ h_ => by first | exact h_.1 | simp only [h_, ne_eq, not_false_eq_true, and_self])))); (case side2 => exact (Kd.R_reads' HO171.out).2.1); rintro e w29 ⟨v174, rfl, ho0, hb⟩; refine ⟨_, rfl, ?_⟩; have n0_ := mk_ (Kd.R_elder' (by (with_reducible repeat (first | apply Kd.R_alloc | apply Kd.R_drewN | apply Kd.R_drew)); exact (Kd.R_mono (Kd.R_far (p := ⟨gb172, 3, none⟩) (Kd.R_far (p := ⟨gb172, 2, none⟩) (Kd.R_far (p := ⟨gb172, 1, none⟩) (Kd.R_far (p := ⟨gb172, 0, none⟩) (Kd.R_types HO171.out BK172.out (by decide)) (fun _ hk => hk.2) (.int .i64 a0)) (fun _ hk => hk.2) (.int .i64 (wrap64 (rd l2 0)))) (fun _ hk => hk.2) (.int .i64 (wrap64 (rd l2 1)))) (fun _ hk => hk.2) (.slice Ao22 t169.length co22)) (fun _ h_ => by first | exact h_.1 | simp only [h_, ne_eq, not_false_eq_true, and_self]))) (Kd.R_base ho0) hb); have n1_ := mk_ (Kd.R_lower (Kd.R_new' ho0 (Kd.R_lt (by (with_reducible repeat (first | apply Kd.R_alloc | apply Kd.R_drewN | apply Kd.R_drew)); exact (Kd.R_mono (Kd.R_far (p := ⟨gb172, 3, none⟩) (Kd.R_far (p := ⟨gb172, 2, none⟩) (Kd.R_far (p := ⟨gb172, 1, none⟩) (Kd.R_far (p := ⟨gb172, 0, none⟩) (Kd.R_types HO171.out BK172.out (by decide)) (fun _ hk => hk.2) (.int .i64 a0)) (fun _ hk => hk.2) (.int .i64 (wrap64 (rd l2 0)))) (fun _ hk => hk.2) (.int .i64 (wrap64 (rd l2 1)))) (fun _ hk => hk.2) (.slice Ao22 t169.length co22)) (fun _ h_ => by first | exact h_.1 | simp only [h_, ne_eq, not_false_eq_true, and_self]))))) (below_size (us_ HB.out))); have n2_ := mk_ (blk_below (g := gb165) (o := .cells #[.int .i64 0, .int .i64 0, .int .i64 0, .slice none 0 0] 27 (0, 0)) (uf_ BK165.out) hb); have n3_ := mk_ (blk_below (g := gb172) (o := .cells #[.int .i64 a0, .int .i64 (wrap64 (rd l2 0)), .int .i64 (wrap64 (rd l2 1)), .slice Ao22 t169.length co22] 27 (0, 0)) (by (with_reducible repeat (first | refine bn_ ?_ _ | refine bw_ ?_ | refine ba_ ?_ _)); refine blk_put (cs := #[.int .i64 a0, .int .i64 (wrap64 (rd l2 0)), .int .i64 (wrap64 (rd l2 1)), .slice none 0 0]) ?_ 3 _ rfl; (with_reducible repeat (first | refine bn_ ?_ _ | refine bw_ ?_ | refine ba_ ?_ _)); refine blk_put (cs := #[.int .i64 a0, .int .i64 (wrap64 (rd l2 0)), .int .i64 0, .slice none 0 0]) ?_ 2 _ rfl; (with_reducible repeat (first | refine bn_ ?_ _ | refine bw_ ?_ | refine ba_ ?_ _)); refine blk_put (cs := #[.int .i64 a0, .int .i64 0, .int .i64 0, .slice none 0 0]) ?_ 1 _ rfl; (with_reducible repeat (first | refine bn_ ?_ _ | refine bw_ ?_ | refine ba_ ?_ _)); refine blk_put (cs := #[.int .i64 0, .int .i64 0, .int .i64 0, .slice none 0 0]) ?_ 0 _ rfl; (with_reducible repeat (first | refine bn_ ?_ _ | refine bw_ ?_ | refine ba_ ?_ _)); exact BK172.out) hb); have n4_ := mk_ (below_step (us_ HB.out) hb); clear HO171; clear BK165; clear BK172; clear HB; have HO171 := n0_; have HO175 := n1_; have BK165 := n2_; have BK172 := n3_; have HB := n4_; clear n0_ n1_ n2_ n3_ n4_; (try clear hb); (try clear hb2); (try clear hk); (try clear hi); (try clear ho0); obtain ⟨Ao30, co30, eo30⟩ := Kd.R_slice HO175.out; subst eo30) | ((with_reducible refine gate_callee (f := 49) rfl ?_); refine goesL_ (some 33) rfl rfl Try.func49 (by kernel_rfl) rfl #[.slice Ao30 t173.length co30, .slice (some ad166) l2.length c2] rfl (by (try simp only [lm_, lo_, ln_]); first | done | rfl | (simp only [List.length_drop, List.length_take]; rfl)) ?_; (with_reducible refine (slices_Equal_byte_byte.calls k _ _ t173 _ _ l2 true _ ?side1 ?side2 ?side3 ?side4 A13.out).mono ?_); (case side1 => repeat (first | exact (Kd.R_reads' HO175.out).2.2 | (with_reducible refine Kd.C_alloc ?_ _) | (with_reducible refine Kd.C_drewN ?_ _) | (with_reducible refine Kd.C_drew ?_))); (case side2 => exact (Kd.R_reads' HO175.out).2.1); (case side3 => repeat (first | exact (Kd.C_below HR2.out HB.out) | (with_reducible refine Kd.C_alloc ?_ _) | (with_reducible refine Kd.C_drewN ?_ _) | (with_reducible refine Kd.C_drew ?_))); (case side4 => exact HC2.out); rintro e w' ⟨rfl, ⟨nd, rfl⟩⟩; refine ⟨_, rfl, ?_⟩; (try (rw [drewN_self w29]; generalize hq_ : World.drewN w29 _ = w29; have n0_ : Aside0 (Kd.R (Kd.int .u8) 5 w29 w.heap.size (fun k_ => some k_ ≠ (.slice Ao30 t173.length co30 : Value).ownBlock) (.slice Ao22 t169.length co22) t169) := ⟨by rw [← hq_]; exact (by (with_reducible repeat (first | apply Kd.R_alloc | apply Kd.R_drewN | apply Kd.R_drew)); exact Kd.R_mono HO171.out (fun _ hk => hk.2))⟩; have n1_ : Aside0 (Kd.R (Kd.int .u8) 5 w29 w.heap.size (fun k_ => some k_ ≠ (.slice Ao22 t169.length co22 : Value).ownBlock) (.slice Ao30 t173.length co30) t173) := ⟨by rw [← hq_]; exact (by (with_reducible repeat (first | apply Kd.R_alloc | apply Kd.R_drewN | apply Kd.R_drew)); exact Kd.R_mono HO175.out (fun _ hk => hk.2))⟩; have n2_ : Aside0 (w29.heap[gb165]? = some (.cells #[.int .i64 0, .int .i64 0, .int .i64 0, .slice none 0 0] 27 (0, 0))) := ⟨by rw [← hq_]; exact (u_ BK165.out)⟩; have n3_ : Aside0 (w29.heap[gb172]? = some (.cells #[.int .i64 a0, .int .i64 (wrap64 (rd l2 0)), .int .i64 (wrap64 (rd l2 1)), .slice Ao22 t169.length co22] 27 (0, 0))) := ⟨by rw [← hq_]; exact (u_ BK172.out)⟩; have n4_ : Aside0 (Below w.heap.size w w29) := ⟨by rw [← hq_]; exact (us_ HB.out)⟩; clear HO171 HO175 BK165 BK172 HB hq_; have HO171 := n0_; have HO175 := n1_; have BK165 := n2_; have BK172 := n3_; have HB := n4_; clear n0_ n1_ n2_ n3_ n4_)); obtain ⟨hcz31_0, hcz31_1, hcz31_2, hcz31_3, hfz31_0, hfz31_1, hfz31_2, hfz31_3⟩ := cells4_ BK172.out; obtain ⟨hcz32_0, hcz32_1, hcz32_2, hcz32_3, hfz32_0, hfz32_1, hfz32_2, hfz32_3⟩ := cells4_ BK165.out))
  refine bodyPost_ret (results_ct rfl _ _ gb165 27 #[.int .i64 a0, .int .i64 (wrap64 (rd l2 0)), .int .i64 (wrap64 (rd l2 1)), .slice Ao22 t169.length co22] (0, 0) _ rfl (by (with_reducible repeat (first | refine bn_ ?_ _ | refine bw_ ?_ | refine ba_ ?_ _)); refine blk_put (cs := #[.int .i64 a0, .int .i64 (wrap64 (rd l2 0)), .int .i64 (wrap64 (rd l2 1)), .slice none 0 0]) ?_ 3 _ rfl; (with_reducible repeat (first | refine bn_ ?_ _ | refine bw_ ?_ | refine ba_ ?_ _)); refine blk_put (cs := #[.int .i64 a0, .int .i64 (wrap64 (rd l2 0)), .int .i64 0, .slice none 0 0]) ?_ 2 _ rfl; (with_reducible repeat (first | refine bn_ ?_ _ | refine bw_ ?_ | refine ba_ ?_ _)); refine blk_put (cs := #[.int .i64 a0, .int .i64 0, .int .i64 0, .slice none 0 0]) ?_ 1 _ rfl; (with_reducible repeat (first | refine bn_ ?_ _ | refine bw_ ?_ | refine ba_ ?_ _)); refine blk_put (cs := #[.int .i64 0, .int .i64 0, .int .i64 0, .slice none 0 0]) ?_ 0 _ rfl; (with_reducible repeat (first | refine bn_ ?_ _ | refine bw_ ?_ | refine ba_ ?_ _)); exact BK165.out) Try.underlying27 rfl (by kernel_rfl)) rfl ?_
  exact ⟨_, by first | rfl | (simp [errW_none, errW_some] <;> rfl) | (simp [*, errW_none, errW_some] <;> rfl), by (with_reducible repeat (first | apply Kd.R_alloc | apply Kd.R_drewN | apply Kd.R_drew)); exact Kd.R_mono (Kd.R_far (p := ⟨gb165, 3, none⟩) (Kd.R_far (p := ⟨gb165, 2, none⟩) (Kd.R_far (p := ⟨gb165, 1, none⟩) (Kd.R_far (p := ⟨gb165, 0, none⟩) (Kd.R_types HO171.out BK165.out (by decide)) (fun _ hk => hk.2) (.int .i64 a0)) (fun _ hk => hk.2) (.int .i64 (wrap64 (rd l2 0)))) (fun _ hk => hk.2) (.int .i64 (wrap64 (rd l2 1)))) (fun _ hk => hk.2) (.slice Ao22 t169.length co22)) (fun _ hk => trivial), us_ HB.out⟩
 replace c14 := Bool.eq_false_iff.mpr c14
 subst c14
 have H1 : (some (0, 0, 0, ([] : List Int), false)) = some (r1, r2, r3, r4, r5) := by rw [if_neg (show ¬ (false = true) by decide)] at H; exact H
 clear H
 have H := H1
 clear H1
 simp only [Option.some.injEq, Prod.mk.injEq] at H
 obtain ⟨rfl, rfl, rfl, rfl, rfl⟩ := H
 go_enter Try.func21, Try.ntmps21
 try go_wp2_with (first | ((with_reducible refine gate_dst (N := 6) rfl ?_); refine box_event ?hg (N := 6) ?hd (cs := #[.int .i64 0, .int .i64 0, .int .i64 0, .slice none 0 0]) (t := 27) ?hr ?_; (case hd => rfl); (case hg => rfl); (case hr => first | (go_simp; done) | (go_simp; rfl)); intro gb165 hg w33 hbox hb; have n0_ := mk_ (below_step (ub_ HB.out) hb); have n1_ := mk_ (hbox); have n2_ := mk_ ((by rw [hg]; exact (below_size (ub_ HB.out)) : w.heap.size ≤ gb165)); have n3_ := mk_ ((by rw [hg]; exact (below_size (ub_ HB.out)) : w.heap.size ≤ gb165)); clear HB; have HB := n0_; have BK165 := n1_; have GW165 := n2_; have GE165 := ge_ n3_.out; clear n0_ n1_ n2_ n3_; clear hb hbox hg))
 have n0_ := mk_ (blk_drew BK165.out)
 have n1_ := mk_ (below_drew1 HB.out)
 clear BK165
 clear HB
 have BK165 := n0_
 have HB := n1_
 clear n0_ n1_
 have p166 : 0 ≤ (0 : Int) := (by omega)
 have q166 : 0 < (l2.length : Int) := of_decide_eq_true (by first | (with_reducible assumption) | assumption)
 obtain ⟨ad166, e166, hx166_0⟩ := Kd.at_int HR2.out 0 p166 q166
 have hw166_0 := hx166_0
 (try rw [show ((0 : Int)).toNat = 0 from rfl] at hw166_0)
 (try rw [show 0 * 1 = 0 from rfl] at hw166_0)
 (try rw [Addr.add_zero'] at hw166_0)
 cases e166
 have qi166 : (0 < l2.length) = True := eq_true (by omega)
 (try rw [show ((0 : Int)).toNat = 0 from rfl] at hx166_0)
 (try rw [Addr.add_zero'] at hx166_0)
 replace hx166_0 := (HB.out.cell (lc_ w _ hx166_0)).trans hx166_0
 replace p166 := eq_true p166
 replace q166 := eq_true q166
 have p167 : 0 ≤ (1 : Int) := (by omega)
 have q167 : 1 < (l2.length : Int) := of_decide_eq_true (by first | (with_reducible assumption) | assumption)
 obtain ⟨ad167, e167, hx167_0⟩ := Kd.at_int HR2.out 1 p167 q167
 have hw167_0 := hx167_0
 (try rw [show ((1 : Int)).toNat = 1 from rfl] at hw167_0)
 (try rw [show 1 * 1 = 1 from rfl] at hw167_0)
 (try simp only [Nat.reduceMul, Nat.reduceEqDiff, Go.Addr.add, ↓reduceIte] at hw167_0)
 obtain rfl : ad166 = ad167 := (by injection e167)
 (try simp only [show (1 : Int).toNat = 1 from rfl, Nat.reduceMul, Nat.reduceEqDiff, Go.Addr.add, ↓reduceIte] at hx167_0)
 have qi167 : (1 < l2.length) = True := eq_true (by omega)
 (try rw [show ((1 : Int)).toNat = 1 from rfl] at hx167_0)
 replace hx167_0 := (HB.out.cell (lc_ w _ hx167_0)).trans hx167_0
 replace p167 := eq_true p167
 replace q167 := eq_true q167
 obtain ⟨i035, hi035, _, hsz35, _⟩ := info_parts info5
 obtain ⟨A35, hcut35, hA35, hC35⟩ := print_mid_of (P := Try.prog) (Value.int .u8) 0 22 5 .i64 .i64 Try.underlying22 hi035 hsz35 (some ad166) c2 l2 3 (wrap64 ((l2.length : Int) - 2)) (by omega) (by first | omega | exact of_decide_eq_true (by first | (with_reducible assumption) | assumption)) (of_decide_eq_true (by first | (with_reducible assumption) | assumption)) HC2.out
 have HR168 := mk_ (Kd.C_of_reads (h1 := fun _ => rfl) (hA35 _ (Kd.reads_of_C HR2.out)))
 have HC168 := mk_ hC35
 clear hA35 hC35 hi035 hsz35
 refine start_ (n := 18) (S := fun w' => w'.cell? ad166 = some (.int .u8 (rd l2 0)) ∧ w'.cell? ⟨ad166.block, ad166.off + 1, none⟩ = some (.int .u8 (rd l2 1))) (ds := []) #[F_, F_, F_, F_, F_, F_, F_, F_, F_, F_, F_, F_, F_, F_, F_, F_, F_, F_] (by kernel_rfl) rfl rfl ⟨((HB.out.cell (lc_ w _ hw166_0)).trans hw166_0), ((HB.out.cell (lc_ w _ hw167_0)).trans hw167_0)⟩ (fun hHeld => ?_); refine with_tabW impl_MailFrom.tab3 impl_MailFrom.bits3 (fun HT_ HW_ => ?_)
 generalize w33.drew = w34 at BK165 HB HR168 hx166_0 hx167_0 hHeld ⊢
 refine pure_ (i := 0) (N := some 13) (v := ?_) (a' := ?_) #[T_, F_, F_, F_, F_, F_, F_, F_, F_, F_, F_, F_, F_, F_, F_, F_, F_, F_] rfl rfl (any_of HT_.out (by kernel_rfl)) (fun _ _ _ h => h) (Or.inl ⟨by rfl, ?_⟩) ?_ ?_
 rotate_left
 ·intro w'
  go_simp
  with_reducible rfl
 rotate_left
 ·simp only [Act.put, la_, lz_, ls_, i64_w, i32_w]
  rfl
 refine pure_ (i := 1) (N := some 14) (v := ?_) (a' := ?_) #[T_, T_, F_, F_, F_, F_, F_, F_, F_, F_, F_, F_, F_, F_, F_, F_, F_, F_] rfl rfl (any_of HT_.out (by kernel_rfl)) (fun _ _ _ h => h) (Or.inl ⟨by rfl, ?_⟩) ?_ ?_
 rotate_left
 ·intro w'
  go_simp
  with_reducible rfl
 rotate_left
 ·simp only [Act.put, la_, lz_, ls_, i64_w, i32_w]
  rfl
 refine pure_ (i := 2) (N := some 15) (v := ?_) (a' := ?_) #[T_, T_, T_, F_, F_, F_, F_, F_, F_, F_, F_, F_, F_, F_, F_, F_, F_, F_] rfl rfl (any_of HT_.out (by kernel_rfl)) (fun _ _ _ h => h) (Or.inl ⟨by rfl, ?_⟩) ?_ ?_
 rotate_left
 ·intro w'
  go_simp
  with_reducible rfl
 rotate_left
 ·simp only [Act.put, la_, lz_, ls_, i64_w, i32_w]
  rfl
 refine pure_ (i := 5) (N := some 18) (v := ?_) (a' := ?_) #[T_, T_, T_, F_, F_, T_, F_, F_, F_, F_, F_, F_, F_, F_, F_, F_, F_, F_] rfl rfl (any_of HT_.out (by kernel_rfl)) (fun _ _ _ h => h) (Or.inl ⟨by rfl, ?_⟩) ?_ ?_
 rotate_left
 ·intro w'
  go_simp
  with_reducible rfl
 rotate_left
 ·simp only [Act.put, la_, lz_, ls_, i64_w, i32_w]
  rfl
 refine pure_ (i := 6) (N := some 19) (v := ?_) (a' := ?_) #[T_, T_, T_, F_, F_, T_, T_, F_, F_, F_, F_, F_, F_, F_, F_, F_, F_, F_] rfl rfl (any_of HT_.out (by kernel_rfl)) (fun _ _ _ h => h) (Or.inl ⟨by rfl, ?_⟩) ?_ ?_
 rotate_left
 ·intro w'
  go_simp
  with_reducible rfl
 rotate_left
 ·simp only [Act.put, la_, lz_, ls_, i64_w, i32_w]
  rfl
 refine pure_ (i := 9) (N := some 22) (v := ?_) (a' := ?_) #[T_, T_, T_, F_, F_, T_, T_, F_, F_, T_, F_, F_, F_, F_, F_, F_, F_, F_] rfl rfl (any_of HT_.out (by kernel_rfl)) (fun _ _ _ h => h) (Or.inl ⟨by rfl, ?_⟩) ?_ ?_
 rotate_left
 ·intro w'
  go_simp
  with_reducible rfl
 rotate_left
 ·simp only [Act.put, la_, lz_, ls_, i64_w, i32_w]
  rfl
 refine pure_ (i := 10) (N := some 23) (v := ?_) (a' := ?_) #[T_, T_, T_, F_, F_, T_, T_, F_, F_, T_, T_, F_, F_, F_, F_, F_, F_, F_] rfl rfl (any_of HT_.out (by kernel_rfl)) (fun _ _ _ h => h) (Or.inl ⟨by rfl, ?_⟩) ?_ ?_
 rotate_left
 ·intro w'
  go_simp
  with_reducible rfl
 rotate_left
 ·simp only [Act.put, la_, lz_, ls_, i64_w, i32_w]
  rfl
 refine pure_ (i := 11) (N := some 24) (v := ?_) (a' := ?_) #[T_, T_, T_, F_, F_, T_, T_, F_, F_, T_, T_, T_, F_, F_, F_, F_, F_, F_] rfl rfl (any_of HT_.out (by kernel_rfl)) (fun _ _ _ h => h) (Or.inl ⟨by rfl, ?_⟩) ?_ ?_
 rotate_left
 ·intro w'
  go_simp
  with_reducible rfl
 rotate_left
 ·simp only [Act.put, la_, lz_, ls_, i64_w, i32_w]
  rfl
 refine pure_ (i := 12) (N := some 25) (v := ?_) (a' := ?_) #[T_, T_, T_, F_, F_, T_, T_, F_, F_, T_, T_, T_, T_, F_, F_, F_, F_, F_] rfl rfl (any_of HT_.out (by kernel_rfl)) (fun _ _ _ h => h) (Or.inl ⟨by rfl, ?_⟩) ?_ ?_
 rotate_left
 ·intro w'
  go_simp
  with_reducible rfl
 rotate_left
 ·simp only [Act.put, la_, lz_, ls_, i64_w, i32_w]
  rfl
 refine pure_ (i := 13) (N := some 26) (v := ?_) (a' := ?_) #[T_, T_, T_, F_, F_, T_, T_, F_, F_, T_, T_, T_, T_, T_, F_, F_, F_, F_] rfl rfl (any_of HT_.out (by kernel_rfl)) (fun _ _ _ h => h) (Or.inl ⟨by rfl, ?_⟩) ?_ ?_
 rotate_left
 ·intro w'
  go_simp
  with_reducible rfl
 rotate_left
 ·simp only [Act.put, la_, lz_, ls_, i64_w, i32_w]
  rfl
 refine take_ (i := 3) (N := some 16) (v := ?_) (a' := ?_) #[T_, T_, T_, T_, F_, T_, T_, F_, F_, T_, T_, T_, T_, T_, F_, F_, F_, F_] rfl rfl (take_ofW HT_.out HW_.out (by kernel_rfl)) (fun _ _ _ h => h) (Or.inl ⟨by rfl, ?_⟩) hHeld ?_ ?_
 rotate_left
 ·rintro w' ⟨s0, s1⟩
  go_simp
  with_reducible rfl
 rotate_left
 ·simp only [Act.put, la_, lz_, ls_, i64_w, i32_w]
  rfl
 refine pure_ (i := 4) (N := some 17) (v := ?_) (a' := ?_) #[T_, T_, T_, T_, T_, T_, T_, F_, F_, T_, T_, T_, T_, T_, F_, F_, F_, F_] rfl rfl (any_of HT_.out (by kernel_rfl)) (fun _ _ _ h => h) (Or.inl ⟨by rfl, ?_⟩) ?_ ?_
 rotate_left
 ·intro w'
  go_simp
  with_reducible rfl
 rotate_left
 ·simp only [Act.put, la_, lz_, ls_, i64_w, i32_w]
  rfl
 refine take_ (i := 7) (N := some 20) (v := ?_) (a' := ?_) #[T_, T_, T_, T_, T_, T_, T_, T_, F_, T_, T_, T_, T_, T_, F_, F_, F_, F_] rfl rfl (take_ofW HT_.out HW_.out (by kernel_rfl)) (fun _ _ _ h => h) (Or.inl ⟨by rfl, ?_⟩) hHeld ?_ ?_
 rotate_left
 ·rintro w' ⟨s0, s1⟩
  go_simp
  with_reducible rfl
 rotate_left
 ·simp only [Act.put, la_, lz_, ls_, i64_w, i32_w]
  rfl
 refine pure_ (i := 8) (N := some 21) (v := ?_) (a' := ?_) #[T_, T_, T_, T_, T_, T_, T_, T_, T_, T_, T_, T_, T_, T_, F_, F_, F_, F_] rfl rfl (any_of HT_.out (by kernel_rfl)) (fun _ _ _ h => h) (Or.inl ⟨by rfl, ?_⟩) ?_ ?_
 rotate_left
 ·intro w'
  go_simp
  with_reducible rfl
 rotate_left
 ·simp only [Act.put, la_, lz_, ls_, i64_w, i32_w]
  rfl
 refine join_ (σ := Value × Nat) 1 #[T_, T_, T_, T_, T_, T_, T_, T_, T_, T_, T_, T_, T_, T_, T_, T_, T_, F_] (fun s_ => [(27, s_.1), (8, .pointer (some ⟨s_.2, 0, none⟩)), (28, .agg #[.int .i64 a0, .int .i64 (wrap64 (rd l2 0)), .int .i64 (wrap64 (rd l2 1)), s_.1])]) (fun s_ w' => (w'.cell? ad166 = some (.int .u8 (rd l2 0)) ∧ w'.cell? ⟨ad166.block, ad166.off + 1, none⟩ = some (.int .u8 (rd l2 1))) ∧ (Kd.R (Kd.int .u8) 5 w' w.heap.size (fun _ => True) s_.1 t169) ∧ (w'.heap[gb165]? = some (.cells #[.int .i64 0, .int .i64 0, .int .i64 0, .slice none 0 0] 27 (0, 0))) ∧ (w'.heap[s_.2]? = some (.cells #[.int .i64 0, .int .i64 0, .int .i64 0, .slice none 0 0] 27 (0, 0))) ∧ (w.heap.size ≤ s_.2) ∧ (w.heap.size ≤ s_.2) ∧ (gb165 ≠ s_.2) ∧ (s_.2 ≠ gb165) ∧ (Below w.heap.size w w')) ?_ ?_
 rotate_left
 ·intro hCont
  refine two_ (i := 14) (j := 16) (Ni := some 27) (Nj := some 8) #[T_, T_, T_, T_, T_, T_, T_, T_, T_, T_, T_, T_, T_, T_, T_, F_, F_, F_] #[T_, T_, T_, T_, T_, T_, T_, T_, T_, T_, T_, T_, T_, T_, F_, F_, T_, F_] rfl rfl rfl rfl (two_of HT_.out (by kernel_rfl)) (by decide) (by decide) (fun K hK => ?_) (fun K hK => ?_)
  ·skip
   refine goes_ Try.func48 (by kernel_rfl) rfl #[.slice A35 ((l2.take ((wrap64 ((l2.length : Int) - 2)) : Int).toNat).drop 3).length (c2 - 3)] (by rfl) rfl rfl (by (try simp only [List.map_toArray, List.map_cons, List.map_nil]); first | done | (rw [show ((l2.take ((wrap64 ((l2.length : Int) - 2)) : Int).toNat).drop 3).length = ((wrap64 ((l2.length : Int) - 2)).toNat - 3) from (by rw [List.length_drop, List.length_take]; have h_ : ((wrap64 ((l2.length : Int) - 2)) : Int) ≤ (l2.length : Int) := of_decide_eq_true (by first | (with_reducible assumption) | assumption); omega)] <;> rfl) | rfl | (simp only [List.length_drop, List.length_take]; rfl)) ?_
   with_reducible refine (impl_clone_byte.calls _ _ ((l2.take ((wrap64 ((l2.length : Int) - 2)) : Int).toNat).drop 3) t169 _ ?side1 ?side2 A11.out).mono ?_
   (case side1 => repeat (first | exact (Kd.C_below HR168.out HB.out) | (with_reducible refine Kd.C_alloc ?_ _) | (with_reducible refine Kd.C_drewN ?_ _) | (with_reducible refine Kd.C_drew ?_)))
   (case side2 => exact HC168.out)
   rintro e w36 ⟨v170, rfl, ho0, hb⟩
   refine ⟨_, rfl, ?_⟩
   have n0_ := mk_ (Kd.R_lower ho0 (below_size (us_ HB.out)))
   have n1_ := mk_ (blk_below (u_ BK165.out) hb)
   have n2_ := mk_ (below_step (us_ HB.out) hb)
   clear BK165
   clear HB
   have HO171 := n0_
   have BK165 := n1_
   have HB := n2_
   clear n0_ n1_ n2_
   (try clear hb)
   (try clear hb2)
   (try clear hk)
   (try clear hi)
   (try clear ho0)
   obtain ⟨Ao37, co37, eo37⟩ := Kd.R_slice HO171.out
   (first | subst eo37 | (injection eo37 with f1_ f2_ f3_; have f4_ := f1_.symm; have f5_ := f3_.symm; clear f1_ f2_ f3_; subst f4_; subst f5_))
   refine hK.out _ _ ⟨((HB.out.cell (lc_ w _ hw166_0)).trans hw166_0), ((HB.out.cell (lc_ w _ hw167_0)).trans hw167_0)⟩ (fun hHeld => ?_)
   clear hK K
   refine norm_ (a' := ?_) ?_ ?_
   rotate_left
   ·show Act.put _ (some 27) _ = _
    simp only [Act.put, la_, lz_, ls_, i64_w, i32_w]
    rfl
   refine pure_ (i := 15) (N := some 28) (v := ?_) (a' := ?_) #[T_, T_, T_, T_, T_, T_, T_, T_, T_, T_, T_, T_, T_, T_, T_, T_, F_, F_] rfl rfl (any_of HT_.out (by kernel_rfl)) (fun _ _ _ h => h) (Or.inl ⟨by rfl, ?_⟩) ?_ ?_
   rotate_left
   ·intro w'
    go_simp
    with_reducible rfl
   rotate_left
   ·simp only [Act.put, la_, lz_, ls_, i64_w, i32_w]
    rfl
   refine one_ (i := 16) (N := some 8) #[T_, T_, T_, T_, T_, T_, T_, T_, T_, T_, T_, T_, T_, T_, T_, T_, T_, F_] rfl rfl (one_of HT_.out (by kernel_rfl)) (by decide) (fun K hK => ?_)
   refine box_step ?hg (N := 8) ?hd (cs := #[.int .i64 0, .int .i64 0, .int .i64 0, .slice none 0 0]) (t := 27) ?hr ?_; (case hd => rfl); (case hg => rfl); (case hr => first | (go_simp; done) | (go_simp; rfl))
   intro gb172 hg w38 hbox hb
   have n0_ := mk_ (Kd.R_below (Kd.ur_ HO171.out) hb)
   have n1_ := mk_ (blk_below (u_ BK165.out) hb)
   have n2_ := mk_ (below_step (us_ HB.out) hb)
   have n3_ := mk_ (hbox)
   have n4_ := mk_ ((by rw [hg]; exact (below_size (us_ HB.out)) : w.heap.size ≤ gb172))
   have n5_ := mk_ ((by rw [hg]; exact (below_size (us_ HB.out)) : w.heap.size ≤ gb172))
   have n6_ := mk_ ((by rw [hg]; exact Nat.ne_of_lt (blk_lt (u_ BK165.out)) : gb165 ≠ gb172))
   have n7_ := mk_ ((by rw [hg]; exact Nat.ne_of_gt (blk_lt (u_ BK165.out)) : gb172 ≠ gb165))
   clear HO171
   clear BK165
   clear HB
   have HO171 := n0_
   have BK165 := n1_
   have HB := n2_
   have BK172 := n3_
   have GW172 := n4_
   have GE172 := ge_ n5_.out
   have NB165_172 := nq_ n6_.out
   have NB172_165 := nq_ n7_.out
   clear n0_ n1_ n2_ n3_ n4_ n5_ n6_ n7_
   clear hb hbox hg
   refine hK.out _ _ ⟨((HB.out.cell (lc_ w _ hw166_0)).trans hw166_0), ((HB.out.cell (lc_ w _ hw167_0)).trans hw167_0)⟩ (fun hHeld => ?_)
   clear hK K
   refine norm_ (a' := ?_) ?_ ?_
   rotate_left
   ·show Act.put _ (some 8) _ = _
    simp only [Act.put, la_, lz_, ls_, i64_w, i32_w]
    rfl
   exact norm_ (by simp only [putAll, Act.put, la_, lz_, ls_]) (hCont (.slice Ao37 t169.length co37, gb172) _ ⟨hHeld, (Kd.ur_ HO171.out), (u_ BK165.out), (u_ BK172.out), GW172.out, GE172.out, NB165_172.out, NB172_165.out, (us_ HB.out)⟩)
  skip
  refine box_step ?hg (N := 8) ?hd (cs := #[.int .i64 0, .int .i64 0, .int .i64 0, .slice none 0 0]) (t := 27) ?hr ?_; (case hd => rfl); (case hg => rfl); (case hr => first | (go_simp; done) | (go_simp; rfl))
  intro gb172 hg w36 hbox hb
  have n0_ := mk_ (blk_below (u_ BK165.out) hb)
  have n1_ := mk_ (below_step (us_ HB.out) hb)
  have n2_ := mk_ (hbox)
  have n3_ := mk_ ((by rw [hg]; exact (below_size (us_ HB.out)) : w.heap.size ≤ gb172))
  have n4_ := mk_ ((by rw [hg]; exact (below_size (us_ HB.out)) : w.heap.size ≤ gb172))
  have n5_ := mk_ ((by rw [hg]; exact Nat.ne_of_lt (blk_lt (u_ BK165.out)) : gb165 ≠ gb172))
  have n6_ := mk_ ((by rw [hg]; exact Nat.ne_of_gt (blk_lt (u_ BK165.out)) : gb172 ≠ gb165))
  clear BK165
  clear HB
  have BK165 := n0_
  have HB := n1_
  have BK172 := n2_
  have GW172 := n3_
  have GE172 := ge_ n4_.out
  have NB165_172 := nq_ n5_.out
  have NB172_165 := nq_ n6_.out
  clear n0_ n1_ n2_ n3_ n4_ n5_ n6_
  clear hb hbox hg
  refine hK.out _ _ ⟨((HB.out.cell (lc_ w _ hw166_0)).trans hw166_0), ((HB.out.cell (lc_ w _ hw167_0)).trans hw167_0)⟩ (fun hHeld => ?_)
  clear hK K
  refine norm_ (a' := ?_) ?_ ?_
  rotate_left
  ·show Act.put _ (some 8) _ = _
   simp only [Act.put, la_, lz_, ls_, i64_w, i32_w]
   rfl
  refine one_ (i := 14) (N := some 27) #[T_, T_, T_, T_, T_, T_, T_, T_, T_, T_, T_, T_, T_, T_, T_, F_, T_, F_] rfl rfl (one_of HT_.out (by kernel_rfl)) (by decide) (fun K hK => ?_)
  refine goes_ Try.func48 (by kernel_rfl) rfl #[.slice A35 ((l2.take ((wrap64 ((l2.length : Int) - 2)) : Int).toNat).drop 3).length (c2 - 3)] (by rfl) rfl rfl (by (try simp only [List.map_toArray, List.map_cons, List.map_nil]); first | done | (rw [show ((l2.take ((wrap64 ((l2.length : Int) - 2)) : Int).toNat).drop 3).length = ((wrap64 ((l2.length : Int) - 2)).toNat - 3) from (by rw [List.length_drop, List.length_take]; have h_ : ((wrap64 ((l2.length : Int) - 2)) : Int) ≤ (l2.length : Int) := of_decide_eq_true (by first | (with_reducible assumption) | assumption); omega)] <;> rfl) | rfl | (simp only [List.length_drop, List.length_take]; rfl)) ?_
  with_reducible refine (impl_clone_byte.calls _ _ ((l2.take ((wrap64 ((l2.length : Int) - 2)) : Int).toNat).drop 3) t169 _ ?side1 ?side2 A11.out).mono ?_
  (case side1 => repeat (first | exact (Kd.C_below HR168.out HB.out) | (with_reducible refine Kd.C_alloc ?_ _) | (with_reducible refine Kd.C_drewN ?_ _) | (with_reducible refine Kd.C_drew ?_)))
  (case side2 => exact HC168.out)
  rintro e w37 ⟨v170, rfl, ho0, hb⟩
  refine ⟨_, rfl, ?_⟩
  have n0_ := mk_ (Kd.R_lower ho0 (below_size (us_ HB.out)))
  have n1_ := mk_ (blk_below (u_ BK165.out) hb)
  have n2_ := mk_ (blk_below (u_ BK172.out) hb)
  have n3_ := mk_ (below_step (us_ HB.out) hb)
  clear BK165
  clear BK172
  clear HB
  have HO171 := n0_
  have BK165 := n1_
  have BK172 := n2_
  have HB := n3_
  clear n0_ n1_ n2_ n3_
  (try clear hb)
  (try clear hb2)
  (try clear hk)
  (try clear hi)
  (try clear ho0)
  obtain ⟨Ao38, co38, eo38⟩ := Kd.R_slice HO171.out
  (first | subst eo38 | (injection eo38 with f1_ f2_ f3_; have f4_ := f1_.symm; have f5_ := f3_.symm; clear f1_ f2_ f3_; subst f4_; subst f5_))
  refine hK.out _ _ ⟨((HB.out.cell (lc_ w _ hw166_0)).trans hw166_0), ((HB.out.cell (lc_ w _ hw167_0)).trans hw167_0)⟩ (fun hHeld => ?_)
  clear hK K
  refine norm_ (a' := ?_) ?_ ?_
  rotate_left
  ·show Act.put _ (some 27) _ = _
   simp only [Act.put, la_, lz_, ls_, i64_w, i32_w]
   rfl
  refine pure_ (i := 15) (N := some 28) (v := ?_) (a' := ?_) #[T_, T_, T_, T_, T_, T_, T_, T_, T_, T_, T_, T_, T_, T_, T_, T_, T_, F_] rfl rfl (any_of HT_.out (by kernel_rfl)) (fun _ _ _ h => h) (Or.inl ⟨by rfl, ?_⟩) ?_ ?_
  rotate_left
  ·intro w'
   go_simp
   with_reducible rfl
  rotate_left
  ·simp only [Act.put, la_, lz_, ls_, i64_w, i32_w]
   rfl
  exact norm_ (by simp only [putAll, Act.put, la_, lz_, ls_]) (hCont (.slice Ao38 t169.length co38, gb172) _ ⟨hHeld, (Kd.ur_ HO171.out), (u_ BK165.out), (u_ BK172.out), GW172.out, GE172.out, NB165_172.out, NB172_165.out, (us_ HB.out)⟩)
 rintro ⟨v170, gb172⟩ w39 ⟨hS_, h0_, h1_, h2_, h3_, h4_, h5_, h6_, h7_⟩
 have n0_ : Aside0 (Kd.R (Kd.int .u8) 5 w39 w.heap.size (fun _ => True) v170 t169) := ⟨h0_⟩
 have n1_ : Aside0 (w39.heap[gb165]? = some (.cells #[.int .i64 0, .int .i64 0, .int .i64 0, .slice none 0 0] 27 (0, 0))) := ⟨h1_⟩
 have n2_ : Aside0 (w39.heap[gb172]? = some (.cells #[.int .i64 0, .int .i64 0, .int .i64 0, .slice none 0 0] 27 (0, 0))) := ⟨h2_⟩
 have n3_ : Aside0 (w.heap.size ≤ gb172) := ⟨h3_⟩
 have n4_ : Aside0 (w.heap.size ≤ gb172) := ⟨h4_⟩
 have n5_ : Aside0 (gb165 ≠ gb172) := ⟨h5_⟩
 have n6_ : Aside0 (gb172 ≠ gb165) := ⟨h6_⟩
 have n7_ : Aside0 (Below w.heap.size w w39) := ⟨h7_⟩
 clear BK165
 clear HB
 clear h0_ h1_ h2_ h3_ h4_ h5_ h6_ h7_
 have HO171 := n0_
 have BK165 := n1_
 have BK172 := n2_
 have GW172 := n3_
 have GE172 := ge_ n4_.out
 have NB165_172 := nq_ n5_.out
 have NB172_165 := nq_ n6_.out
 have HB := n7_
 clear n0_ n1_ n2_ n3_ n4_ n5_ n6_ n7_
 have hHeld : w39.cell? ad166 = some (.int .u8 (rd l2 0)) ∧ w39.cell? ⟨ad166.block, ad166.off + 1, none⟩ = some (.int .u8 (rd l2 1)) := hS_
 obtain ⟨Ao40, co40, eo40⟩ := Kd.R_slice HO171.out
 (first | subst eo40 | (injection eo40 with f1_ f2_ f3_; have f4_ := f1_.symm; have f5_ := f3_.symm; clear f1_ f2_ f3_; subst f4_; subst f5_))
 refine norm_ (a' := ?_) ?_ ?_
 rotate_left
 ·simp only [putAll, Act.put, la_, lz_, ls_]
  rfl
 refine one_ (i := 17) (N := none) #[T_, T_, T_, T_, T_, T_, T_, T_, T_, T_, T_, T_, T_, T_, T_, T_, T_, T_] rfl rfl (one_of HT_.out (by kernel_rfl)) (by decide) (fun K hK => ?_)
 have hs41 : w39.cell? ⟨gb172, 0, none⟩ = some (.int .i64 0) := (blk_cell BK172.out 0).trans rfl
 have hfs41 := blk_frozen BK172.out 0
 have hns41_0 := NB165_172.out
 have hms41_0 := NB172_165.out
 have hs42 : w39.cell? ⟨gb172, 1, none⟩ = some (.int .i64 0) := (blk_cell BK172.out 1).trans rfl
 have hfs42 := blk_frozen BK172.out 1
 have hns42_0 := NB165_172.out
 have hms42_0 := NB172_165.out
 have hs43 : w39.cell? ⟨gb172, 2, none⟩ = some (.int .i64 0) := (blk_cell BK172.out 2).trans rfl
 have hfs43 := blk_frozen BK172.out 2
 have hns43_0 := NB165_172.out
 have hms43_0 := NB172_165.out
 have hs44 : w39.cell? ⟨gb172, 3, none⟩ = some (.slice none 0 0) := (blk_cell BK172.out 3).trans rfl
 have hfs44 := blk_frozen BK172.out 3
 have hns44_0 := NB165_172.out
 have hms44_0 := NB172_165.out
 refine skip_ (w1 := ?_) (by rfl) rfl ?_ ?_
 rotate_left
 ·go_simp
  rfl
 refine hK.out _ _ ⟨((cell_far (p := ⟨gb172, _, none⟩) (by first | exact (ne1_ (by have := lc_ _ _ hw166_0; first | rwa [add_block] at this | exact this) GW172.out) | (rw [add_block]; exact (ne1_ (by have := lc_ _ _ hw166_0; first | rwa [add_block] at this | exact this) GW172.out)) | (show (Addr.add _ _).block ≠ _; rw [add_block]; exact (ne1_ (by have := lc_ _ _ hw166_0; first | rwa [add_block] at this | exact this) GW172.out)) | (dsimp only; exact (ne1_ (by have := lc_ _ _ hw166_0; first | rwa [add_block] at this | exact this) GW172.out))) _).trans (((cell_far (p := ⟨gb172, _, none⟩) (by first | exact (ne1_ (by have := lc_ _ _ hw166_0; first | rwa [add_block] at this | exact this) GW172.out) | (rw [add_block]; exact (ne1_ (by have := lc_ _ _ hw166_0; first | rwa [add_block] at this | exact this) GW172.out)) | (show (Addr.add _ _).block ≠ _; rw [add_block]; exact (ne1_ (by have := lc_ _ _ hw166_0; first | rwa [add_block] at this | exact this) GW172.out)) | (dsimp only; exact (ne1_ (by have := lc_ _ _ hw166_0; first | rwa [add_block] at this | exact this) GW172.out))) _).trans (((cell_far (p := ⟨gb172, _, none⟩) (by first | exact (ne1_ (by have := lc_ _ _ hw166_0; first | rwa [add_block] at this | exact this) GW172.out) | (rw [add_block]; exact (ne1_ (by have := lc_ _ _ hw166_0; first | rwa [add_block] at this | exact this) GW172.out)) | (show (Addr.add _ _).block ≠ _; rw [add_block]; exact (ne1_ (by have := lc_ _ _ hw166_0; first | rwa [add_block] at this | exact this) GW172.out)) | (dsimp only; exact (ne1_ (by have := lc_ _ _ hw166_0; first | rwa [add_block] at this | exact this) GW172.out))) _).trans (((cell_far (p := ⟨gb172, _, none⟩) (by first | exact (ne1_ (by have := lc_ _ _ hw166_0; first | rwa [add_block] at this | exact this) GW172.out) | (rw [add_block]; exact (ne1_ (by have := lc_ _ _ hw166_0; first | rwa [add_block] at this | exact this) GW172.out)) | (show (Addr.add _ _).block ≠ _; rw [add_block]; exact (ne1_ (by have := lc_ _ _ hw166_0; first | rwa [add_block] at this | exact this) GW172.out)) | (dsimp only; exact (ne1_ (by have := lc_ _ _ hw166_0; first | rwa [add_block] at this | exact this) GW172.out))) _).trans (hHeld.1)))))))), ((cell_far (p := ⟨gb172, _, none⟩) (by first | exact (ne1_ (by have := lc_ _ _ hw167_0; first | rwa [add_block] at this | exact this) GW172.out) | (rw [add_block]; exact (ne1_ (by have := lc_ _ _ hw167_0; first | rwa [add_block] at this | exact this) GW172.out)) | (show (Addr.add _ _).block ≠ _; rw [add_block]; exact (ne1_ (by have := lc_ _ _ hw167_0; first | rwa [add_block] at this | exact this) GW172.out)) | (dsimp only; exact (ne1_ (by have := lc_ _ _ hw167_0; first | rwa [add_block] at this | exact this) GW172.out))) _).trans (((cell_far (p := ⟨gb172, _, none⟩) (by first | exact (ne1_ (by have := lc_ _ _ hw167_0; first | rwa [add_block] at this | exact this) GW172.out) | (rw [add_block]; exact (ne1_ (by have := lc_ _ _ hw167_0; first | rwa [add_block] at this | exact this) GW172.out)) | (show (Addr.add _ _).block ≠ _; rw [add_block]; exact (ne1_ (by have := lc_ _ _ hw167_0; first | rwa [add_block] at this | exact this) GW172.out)) | (dsimp only; exact (ne1_ (by have := lc_ _ _ hw167_0; first | rwa [add_block] at this | exact this) GW172.out))) _).trans (((cell_far (p := ⟨gb172, _, none⟩) (by first | exact (ne1_ (by have := lc_ _ _ hw167_0; first | rwa [add_block] at this | exact this) GW172.out) | (rw [add_block]; exact (ne1_ (by have := lc_ _ _ hw167_0; first | rwa [add_block] at this | exact this) GW172.out)) | (show (Addr.add _ _).block ≠ _; rw [add_block]; exact (ne1_ (by have := lc_ _ _ hw167_0; first | rwa [add_block] at this | exact this) GW172.out)) | (dsimp only; exact (ne1_ (by have := lc_ _ _ hw167_0; first | rwa [add_block] at this | exact this) GW172.out))) _).trans (((cell_far (p := ⟨gb172, _, none⟩) (by first | exact (ne1_ (by have := lc_ _ _ hw167_0; first | rwa [add_block] at this | exact this) GW172.out) | (rw [add_block]; exact (ne1_ (by have := lc_ _ _ hw167_0; first | rwa [add_block] at this | exact this) GW172.out)) | (show (Addr.add _ _).block ≠ _; rw [add_block]; exact (ne1_ (by have := lc_ _ _ hw167_0; first | rwa [add_block] at this | exact this) GW172.out)) | (dsimp only; exact (ne1_ (by have := lc_ _ _ hw167_0; first | rwa [add_block] at this | exact this) GW172.out))) _).trans (hHeld.2))))))))⟩ (fun hHeld => ?_)
 clear hK K
 refine done_ (done_of HT_.out (by kernel_rfl)) ?_
 have hnb45 := NB172_165.out
 have hnc45 := NB165_172.out
 obtain ⟨hcz46_0, hcz46_1, hcz46_2, hcz46_3, hfz46_0, hfz46_1, hfz46_2, hfz46_3⟩ := cells4_ BK172.out
 try go_wp2_with (first | ((with_reducible refine gate_callee (f := 12) rfl ?_); refine goesL_ (some 31) rfl rfl Try.func12 (by kernel_rfl) rfl #[.agg #[.int .i64 a0, .int .i64 (wrap64 (rd l2 0)), .int .i64 (wrap64 (rd l2 1)), .slice Ao40 t169.length co40], .int .i64 a1] rfl (by (try simp only [lm_, lo_, ln_]); first | done | rfl | (simp only [List.length_drop, List.length_take]; rfl)) ?_; (with_reducible refine (impl_MailBytes.calls k a0 (wrap64 (rd l2 0)) (wrap64 (rd l2 1)) _ _ t169 a1 t173 _ ?side1 ?side2 A12.out).mono ?_); (case side1 => refine (Kd.R_reads' (e := 5) (base := w.heap.size) (ok := fun k_ => True) (n := t169.length) (c := co40) ?_).2.2; exact (by (with_reducible repeat (first | apply Kd.R_alloc | apply Kd.R_drewN | apply Kd.R_drew)); exact (Kd.R_mono (Kd.R_far (p := ⟨gb172, 3, none⟩) (Kd.R_far (p := ⟨gb172, 2, none⟩) (Kd.R_far (p := ⟨gb172, 1, none⟩) (Kd.R_far (p := ⟨gb172, 0, none⟩) (Kd.R_types HO171.out BK172.out (by decide)) (fun _ hk => hk.2) (.int .i64 a0)) (fun _ hk => hk.2) (.int .i64 (wrap64 (rd l2 0)))) (fun _ hk => hk.2) (.int .i64 (wrap64 (rd l2 1)))) (fun _ hk => hk.2) (.slice Ao40 t169.length co40)) (fun _ h_ => by first | exact h_.1 | simp only [h_, ne_eq, not_false_eq_true, and_self])))); (case side2 => exact (Kd.R_reads' HO171.out).2.1); rintro e w47 ⟨v174, rfl, ho0, hb⟩; refine ⟨_, rfl, ?_⟩; have n0_ := mk_ (Kd.R_elder' (by (with_reducible repeat (first | apply Kd.R_alloc | apply Kd.R_drewN | apply Kd.R_drew)); exact (Kd.R_mono (Kd.R_far (p := ⟨gb172, 3, none⟩) (Kd.R_far (p := ⟨gb172, 2, none⟩) (Kd.R_far (p := ⟨gb172, 1, none⟩) (Kd.R_far (p := ⟨gb172, 0, none⟩) (Kd.R_types HO171.out BK172.out (by decide)) (fun _ hk => hk.2) (.int .i64 a0)) (fun _ hk => hk.2) (.int .i64 (wrap64 (rd l2 0)))) (fun _ hk => hk.2) (.int .i64 (wrap64 (rd l2 1)))) (fun _ hk => hk.2) (.slice Ao40 t169.length co40)) (fun _ h_ => by first | exact h_.1 | simp only [h_, ne_eq, not_false_eq_true, and_self]))) (Kd.R_base ho0) hb); have n1_ := mk_ (Kd.R_lower (Kd.R_new' ho0 (Kd.R_lt (by (with_reducible repeat (first | apply Kd.R_alloc | apply Kd.R_drewN | apply Kd.R_drew)); exact (Kd.R_mono (Kd.R_far (p := ⟨gb172, 3, none⟩) (Kd.R_far (p := ⟨gb172, 2, none⟩) (Kd.R_far (p := ⟨gb172, 1, none⟩) (Kd.R_far (p := ⟨gb172, 0, none⟩) (Kd.R_types HO171.out BK172.out (by decide)) (fun _ hk => hk.2) (.int .i64 a0)) (fun _ hk => hk.2) (.int .i64 (wrap64 (rd l2 0)))) (fun _ hk => hk.2) (.int .i64 (wrap64 (rd l2 1)))) (fun _ hk => hk.2) (.slice Ao40 t169.length co40)) (fun _ h_ => by first | exact h_.1 | simp only [h_, ne_eq, not_false_eq_true, and_self]))))) (below_size (us_ HB.out))); have n2_ := mk_ (blk_below (g := gb165) (o := .cells #[.int .i64 0, .int .i64 0, .int .i64 0, .slice none 0 0] 27 (0, 0)) (uf_ BK165.out) hb); have n3_ := mk_ (blk_below (g := gb172) (o := .cells #[.int .i64 a0, .int .i64 (wrap64 (rd l2 0)), .int .i64 (wrap64 (rd l2 1)), .slice Ao40 t169.length co40] 27 (0, 0)) (by (with_reducible repeat (first | refine bn_ ?_ _ | refine bw_ ?_ | refine ba_ ?_ _)); refine blk_put (cs := #[.int .i64 a0, .int .i64 (wrap64 (rd l2 0)), .int .i64 (wrap64 (rd l2 1)), .slice none 0 0]) ?_ 3 _ rfl; (with_reducible repeat (first | refine bn_ ?_ _ | refine bw_ ?_ | refine ba_ ?_ _)); refine blk_put (cs := #[.int .i64 a0, .int .i64 (wrap64 (rd l2 0)), .int .i64 0, .slice none 0 0]) ?_ 2 _ rfl; (with_reducible repeat (first | refine bn_ ?_ _ | refine bw_ ?_ | refine ba_ ?_ _)); refine blk_put (cs := #[.int .i64 a0, .int .i64 0, .int .i64 0, .slice none 0 0]) ?_ 1 _ rfl; (with_reducible repeat (first | refine bn_ ?_ _ | refine bw_ ?_ | refine ba_ ?_ _)); refine blk_put (cs := #[.int .i64 0, .int .i64 0, .int .i64 0, .slice none 0 0]) ?_ 0 _ rfl; (with_reducible repeat (first | refine bn_ ?_ _ | refine bw_ ?_ | refine ba_ ?_ _)); exact BK172.out) hb); have n4_ := mk_ (below_step (us_ HB.out) hb); clear HO171; clear BK165; clear BK172; clear HB; have HO171 := n0_; have HO175 := n1_; have BK165 := n2_; have BK172 := n3_; have HB := n4_; clear n0_ n1_ n2_ n3_ n4_; (try clear hb); (try clear hb2); (try clear hk); (try clear hi); (try clear ho0); obtain ⟨Ao48, co48, eo48⟩ := Kd.R_slice HO175.out; subst eo48) | ((with_reducible refine gate_callee (f := 49) rfl ?_); refine goesL_ (some 33) rfl rfl Try.func49 (by kernel_rfl) rfl #[.slice Ao48 t173.length co48, .slice (some ad166) l2.length c2] rfl (by (try simp only [lm_, lo_, ln_]); first | done | rfl | (simp only [List.length_drop, List.length_take]; rfl)) ?_; (with_reducible refine (slices_Equal_byte_byte.calls k _ _ t173 _ _ l2 false _ ?side1 ?side2 ?side3 ?side4 A13.out).mono ?_); (case side1 => repeat (first | exact (Kd.R_reads' HO175.out).2.2 | (with_reducible refine Kd.C_alloc ?_ _) | (with_reducible refine Kd.C_drewN ?_ _) | (with_reducible refine Kd.C_drew ?_))); (case side2 => exact (Kd.R_reads' HO175.out).2.1); (case side3 => repeat (first | exact (Kd.C_below HR2.out HB.out) | (with_reducible refine Kd.C_alloc ?_ _) | (with_reducible refine Kd.C_drewN ?_ _) | (with_reducible refine Kd.C_drew ?_))); (case side4 => exact HC2.out); rintro e w' ⟨rfl, ⟨nd, rfl⟩⟩; refine ⟨_, rfl, ?_⟩; (try (rw [drewN_self w47]; generalize hq_ : World.drewN w47 _ = w47; have n0_ : Aside0 (Kd.R (Kd.int .u8) 5 w47 w.heap.size (fun k_ => some k_ ≠ (.slice Ao48 t173.length co48 : Value).ownBlock) (.slice Ao40 t169.length co40) t169) := ⟨by rw [← hq_]; exact (by (with_reducible repeat (first | apply Kd.R_alloc | apply Kd.R_drewN | apply Kd.R_drew)); exact Kd.R_mono HO171.out (fun _ hk => hk.2))⟩; have n1_ : Aside0 (Kd.R (Kd.int .u8) 5 w47 w.heap.size (fun k_ => some k_ ≠ (.slice Ao40 t169.length co40 : Value).ownBlock) (.slice Ao48 t173.length co48) t173) := ⟨by rw [← hq_]; exact (by (with_reducible repeat (first | apply Kd.R_alloc | apply Kd.R_drewN | apply Kd.R_drew)); exact Kd.R_mono HO175.out (fun _ hk => hk.2))⟩; have n2_ : Aside0 (w47.heap[gb165]? = some (.cells #[.int .i64 0, .int .i64 0, .int .i64 0, .slice none 0 0] 27 (0, 0))) := ⟨by rw [← hq_]; exact (u_ BK165.out)⟩; have n3_ : Aside0 (w47.heap[gb172]? = some (.cells #[.int .i64 a0, .int .i64 (wrap64 (rd l2 0)), .int .i64 (wrap64 (rd l2 1)), .slice Ao40 t169.length co40] 27 (0, 0))) := ⟨by rw [← hq_]; exact (u_ BK172.out)⟩; have n4_ : Aside0 (Below w.heap.size w w47) := ⟨by rw [← hq_]; exact (us_ HB.out)⟩; clear HO171 HO175 BK165 BK172 HB hq_; have HO171 := n0_; have HO175 := n1_; have BK165 := n2_; have BK172 := n3_; have HB := n4_; clear n0_ n1_ n2_ n3_ n4_)); obtain ⟨hcz49_0, hcz49_1, hcz49_2, hcz49_3, hfz49_0, hfz49_1, hfz49_2, hfz49_3⟩ := cells4_ BK165.out))
 refine bodyPost_ret (results_ct rfl _ _ gb165 27 #[.int .i64 0, .int .i64 0, .int .i64 0, .slice none 0 0] (0, 0) _ rfl (by (with_reducible repeat (first | refine bn_ ?_ _ | refine bw_ ?_ | refine ba_ ?_ _)); refine blk_put (cs := #[.int .i64 0, .int .i64 0, .int .i64 0, .slice none 0 0]) ?_ 3 _ rfl; (with_reducible repeat (first | refine bn_ ?_ _ | refine bw_ ?_ | refine ba_ ?_ _)); refine blk_put (cs := #[.int .i64 0, .int .i64 0, .int .i64 0, .slice none 0 0]) ?_ 2 _ rfl; (with_reducible repeat (first | refine bn_ ?_ _ | refine bw_ ?_ | refine ba_ ?_ _)); refine blk_put (cs := #[.int .i64 0, .int .i64 0, .int .i64 0, .slice none 0 0]) ?_ 1 _ rfl; (with_reducible repeat (first | refine bn_ ?_ _ | refine bw_ ?_ | refine ba_ ?_ _)); refine blk_put (cs := #[.int .i64 0, .int .i64 0, .int .i64 0, .slice none 0 0]) ?_ 0 _ rfl; (with_reducible repeat (first | refine bn_ ?_ _ | refine bw_ ?_ | refine ba_ ?_ _)); exact BK165.out) Try.underlying27 rfl (by kernel_rfl)) rfl ?_
 exact ⟨_, by first | rfl | (simp [errW_none, errW_some] <;> rfl) | (simp [*, errW_none, errW_some] <;> rfl), by first | exact Kd.R_nil _ _ _ _ _ | exact Kd.N_nil _ _ _ _ _ | exact Kd.V_nil _ _ _ _ _ | exact Kd.Q_nil _ _ _ _ _ | exact Kd.S_nil _ _ _ _ _, us_ HB.out⟩

/-! ### laws_sameMail: function 22 -/
def laws_sameMail.f (a0_0 : Int) (a0_1 : Int) (a0_2 : Int) (l0_3 : List Int) (a1_0 : Int) (a1_1 : Int) (a1_2 : Int) (l1_3 : List Int) : Option (Bool) := if a0_0 = a1_0 then (if a0_1 = a1_1 then (if a0_2 = a1_2 then ((laws_sameBytes.f l0_3 l1_3).bind fun t179 => (some t179)) else (some false)) else (some false)) else (some false)
set_option maxHeartbeats 8000000 in
set_option maxRecDepth 100000 in
theorem laws_sameMail.calls (a0_0 : Int) (a0_1 : Int) (a0_2 : Int) (A0_3 : Option Addr) (c0_3 : Nat) (l0_3 : List Int) (a1_0 : Int) (a1_1 : Int) (a1_2 : Int) (A1_3 : Option Addr) (c1_3 : Nat) (l1_3 : List Int) (r : Bool) (w : World) (hr0_3 : Kd.C (Kd.int .u8) w A0_3 l0_3.length l0_3) (hc0_3 : l0_3.length ≤ c0_3) (hr1_3 : Kd.C (Kd.int .u8) w A1_3 l1_3.length l1_3) (hc1_3 : l1_3.length ≤ c1_3) (h : laws_sameMail.f a0_0 a0_1 a0_2 l0_3 a1_0 a1_1 a1_2 l1_3 = some r) :
  Calls Try.prog 22 #[.agg #[.int .i64 a0_0, .int .i64 a0_1, .int .i64 a0_2, .slice A0_3 l0_3.length c0_3], .agg #[.int .i64 a1_0, .int .i64 a1_1, .int .i64 a1_2, .slice A1_3 l1_3.length c1_3]] w fun e w' => e = .returned (.bool r) ∧ Below w.heap.size w w' := by
 have hu27 := Try.underlying27
 have HR0_3 := mk_ hr0_3
 have HC0_3 := mk_ hc0_3
 clear hr0_3 hc0_3
 have HR1_3 := mk_ hr1_3
 have HC1_3 := mk_ hc1_3
 clear hr1_3 hc1_3
 have HB := mk_ (Below.refl w.heap.size w)
 have H : (if a0_0 = a1_0 then (if a0_1 = a1_1 then (if a0_2 = a1_2 then ((laws_sameBytes.f l0_3 l1_3).bind fun t179 => (some t179)) else (some false)) else (some false)) else (some false)) = some r := h
 clear h
 by_cases c3 : a0_0 = a1_0
 rotate_left
 ·rw [if_neg c3] at H
  have c3b0 : (a0_0 == a1_0) = false := beq_eq_false_iff_ne.mpr c3
  have c3b1 : (a0_0 != a1_0) = true := bne_iff_ne.mpr c3
  obtain rfl := Option.some.inj H
  go_enter Try.func22, Try.ntmps22
  go_wp2_with (first | ((with_reducible refine gate_dst (N := 2) rfl ?_); refine box_event ?hg (N := 2) ?hd (cs := #[.int .i64 a0_0, .int .i64 a0_1, .int .i64 a0_2, .slice A0_3 l0_3.length c0_3]) (t := 27) ?hr ?_; (case hd => rfl); (case hg => rfl); (case hr => first | (go_simp; done) | (go_simp; rfl)); intro gb177 hg w22 hbox hb; have n0_ := mk_ (below_step (ub_ HB.out) hb); have n1_ := mk_ (hbox); have n2_ := mk_ ((by rw [hg]; exact (below_size (ub_ HB.out)) : w.heap.size ≤ gb177)); have n3_ := mk_ ((by rw [hg]; exact (below_size (ub_ HB.out)) : w.heap.size ≤ gb177)); clear HB; have HB := n0_; have BK177 := n1_; have GW177 := n2_; have GE177 := ge_ n3_.out; clear n0_ n1_ n2_ n3_; clear hb hbox hg) | ((with_reducible refine gate_dst (N := 3) rfl ?_); refine box_event ?hg (N := 3) ?hd (cs := #[.int .i64 a1_0, .int .i64 a1_1, .int .i64 a1_2, .slice A1_3 l1_3.length c1_3]) (t := 27) ?hr ?_; (case hd => rfl); (case hg => rfl); (case hr => first | (go_simp; done) | (go_simp; rfl)); intro gb178 hg w23 hbox hb; have n0_ := mk_ (blk_below (u_ BK177.out) hb); have n1_ := mk_ (below_step (us_ HB.out) hb); have n2_ := mk_ (hbox); have n3_ := mk_ ((by rw [hg]; exact (below_size (us_ HB.out)) : w.heap.size ≤ gb178)); have n4_ := mk_ ((by rw [hg]; exact (below_size (us_ HB.out)) : w.heap.size ≤ gb178)); have n5_ := mk_ ((by rw [hg]; exact Nat.ne_of_lt (blk_lt (u_ BK177.out)) : gb177 ≠ gb178)); have n6_ := mk_ ((by rw [hg]; exact Nat.ne_of_gt (blk_lt (u_ BK177.out)) : gb178 ≠ gb177)); clear BK177; clear HB; have BK177 := n0_; have HB := n1_; have BK178 := n2_; have GW178 := n3_; have GE178 := ge_ n4_.out; have NB177_178 := nq_ n5_.out; have NB178_177 := nq_ n6_.out; clear n0_ n1_ n2_ n3_ n4_ n5_ n6_; clear hb hbox hg; have hnb24 := NB177_178.out; have hnc24 := NB178_177.out; obtain ⟨hcz25_0, hcz25_1, hcz25_2, hcz25_3, hfz25_0, hfz25_1, hfz25_2, hfz25_3⟩ := cells4_ BK177.out; obtain ⟨hcz26_0, hcz26_1, hcz26_2, hcz26_3, hfz26_0, hfz26_1, hfz26_2, hfz26_3⟩ := cells4_ BK178.out))
  go_ret
  exact ⟨by first | rfl | (simp [errW_none, errW_some] <;> rfl) | (simp [*, errW_none, errW_some] <;> rfl), us_ HB.out⟩
 rw [if_pos c3] at H
 have c3b0 : (a0_0 == a1_0) = true := beq_iff_eq.mpr c3
 have c3b1 : (a0_0 != a1_0) = false := bne_eq_false_iff_eq.mpr c3
 clear c3
 by_cases c4 : a0_1 = a1_1
 rotate_left
 ·rw [if_neg c4] at H
  have c4b0 : (a0_1 == a1_1) = false := beq_eq_false_iff_ne.mpr c4
  have c4b1 : (a0_1 != a1_1) = true := bne_iff_ne.mpr c4
  obtain rfl := Option.some.inj H
  go_enter Try.func22, Try.ntmps22
  go_wp2_with (first | ((with_reducible refine gate_dst (N := 2) rfl ?_); refine box_event ?hg (N := 2) ?hd (cs := #[.int .i64 a0_0, .int .i64 a0_1, .int .i64 a0_2, .slice A0_3 l0_3.length c0_3]) (t := 27) ?hr ?_; (case hd => rfl); (case hg => rfl); (case hr => first | (go_simp; done) | (go_simp; rfl)); intro gb177 hg w17 hbox hb; have n0_ := mk_ (below_step (ub_ HB.out) hb); have n1_ := mk_ (hbox); have n2_ := mk_ ((by rw [hg]; exact (below_size (ub_ HB.out)) : w.heap.size ≤ gb177)); have n3_ := mk_ ((by rw [hg]; exact (below_size (ub_ HB.out)) : w.heap.size ≤ gb177)); clear HB; have HB := n0_; have BK177 := n1_; have GW177 := n2_; have GE177 := ge_ n3_.out; clear n0_ n1_ n2_ n3_; clear hb hbox hg) | ((with_reducible refine gate_dst (N := 3) rfl ?_); refine box_event ?hg (N := 3) ?hd (cs := #[.int .i64 a1_0, .int .i64 a1_1, .int .i64 a1_2, .slice A1_3 l1_3.length c1_3]) (t := 27) ?hr ?_; (case hd => rfl); (case hg => rfl); (case hr => first | (go_simp; done) | (go_simp; rfl)); intro gb178 hg w18 hbox hb; have n0_ := mk_ (blk_below (u_ BK177.out) hb); have n1_ := mk_ (below_step (us_ HB.out) hb); have n2_ := mk_ (hbox); have n3_ := mk_ ((by rw [hg]; exact (below_size (us_ HB.out)) : w.heap.size ≤ gb178)); have n4_ := mk_ ((by rw [hg]; exact (below_size (us_ HB.out)) : w.heap.size ≤ gb178)); have n5_ := mk_ ((by rw [hg]; exact Nat.ne_of_lt (blk_lt (u_ BK177.out)) : gb177 ≠ gb178)); have n6_ := mk_ ((by rw [hg]; exact Nat.ne_of_gt (blk_lt (u_ BK177.out)) : gb178 ≠ gb177)); clear BK177; clear HB; have BK177 := n0_; have HB := n1_; have BK178 := n2_; have GW178 := n3_; have GE178 := ge_ n4_.out; have NB177_178 := nq_ n5_.out; have NB178_177 := nq_ n6_.out; clear n0_ n1_ n2_ n3_ n4_ n5_ n6_; clear hb hbox hg; have hnb19 := NB177_178.out; have hnc19 := NB178_177.out; obtain ⟨hcz20_0, hcz20_1, hcz20_2, hcz20_3, hfz20_0, hfz20_1, hfz20_2, hfz20_3⟩ := cells4_ BK177.out; obtain ⟨hcz21_0, hcz21_1, hcz21_2, hcz21_3, hfz21_0, hfz21_1, hfz21_2, hfz21_3⟩ := cells4_ BK178.out))
  go_ret
  exact ⟨by first | rfl | (simp [errW_none, errW_some] <;> rfl) | (simp [*, errW_none, errW_some] <;> rfl), us_ HB.out⟩
 rw [if_pos c4] at H
 have c4b0 : (a0_1 == a1_1) = true := beq_iff_eq.mpr c4
 have c4b1 : (a0_1 != a1_1) = false := bne_eq_false_iff_eq.mpr c4
 clear c4
 by_cases c5 : a0_2 = a1_2
 rotate_left
 ·rw [if_neg c5] at H
  have c5b0 : (a0_2 == a1_2) = false := beq_eq_false_iff_ne.mpr c5
  have c5b1 : (a0_2 != a1_2) = true := bne_iff_ne.mpr c5
  obtain rfl := Option.some.inj H
  go_enter Try.func22, Try.ntmps22
  go_wp2_with (first | ((with_reducible refine gate_dst (N := 2) rfl ?_); refine box_event ?hg (N := 2) ?hd (cs := #[.int .i64 a0_0, .int .i64 a0_1, .int .i64 a0_2, .slice A0_3 l0_3.length c0_3]) (t := 27) ?hr ?_; (case hd => rfl); (case hg => rfl); (case hr => first | (go_simp; done) | (go_simp; rfl)); intro gb177 hg w12 hbox hb; have n0_ := mk_ (below_step (ub_ HB.out) hb); have n1_ := mk_ (hbox); have n2_ := mk_ ((by rw [hg]; exact (below_size (ub_ HB.out)) : w.heap.size ≤ gb177)); have n3_ := mk_ ((by rw [hg]; exact (below_size (ub_ HB.out)) : w.heap.size ≤ gb177)); clear HB; have HB := n0_; have BK177 := n1_; have GW177 := n2_; have GE177 := ge_ n3_.out; clear n0_ n1_ n2_ n3_; clear hb hbox hg) | ((with_reducible refine gate_dst (N := 3) rfl ?_); refine box_event ?hg (N := 3) ?hd (cs := #[.int .i64 a1_0, .int .i64 a1_1, .int .i64 a1_2, .slice A1_3 l1_3.length c1_3]) (t := 27) ?hr ?_; (case hd => rfl); (case hg => rfl); (case hr => first | (go_simp; done) | (go_simp; rfl)); intro gb178 hg w13 hbox hb; have n0_ := mk_ (blk_below (u_ BK177.out) hb); have n1_ := mk_ (below_step (us_ HB.out) hb); have n2_ := mk_ (hbox); have n3_ := mk_ ((by rw [hg]; exact (below_size (us_ HB.out)) : w.heap.size ≤ gb178)); have n4_ := mk_ ((by rw [hg]; exact (below_size (us_ HB.out)) : w.heap.size ≤ gb178)); have n5_ := mk_ ((by rw [hg]; exact Nat.ne_of_lt (blk_lt (u_ BK177.out)) : gb177 ≠ gb178)); have n6_ := mk_ ((by rw [hg]; exact Nat.ne_of_gt (blk_lt (u_ BK177.out)) : gb178 ≠ gb177)); clear BK177; clear HB; have BK177 := n0_; have HB := n1_; have BK178 := n2_; have GW178 := n3_; have GE178 := ge_ n4_.out; have NB177_178 := nq_ n5_.out; have NB178_177 := nq_ n6_.out; clear n0_ n1_ n2_ n3_ n4_ n5_ n6_; clear hb hbox hg; have hnb14 := NB177_178.out; have hnc14 := NB178_177.out; obtain ⟨hcz15_0, hcz15_1, hcz15_2, hcz15_3, hfz15_0, hfz15_1, hfz15_2, hfz15_3⟩ := cells4_ BK177.out; obtain ⟨hcz16_0, hcz16_1, hcz16_2, hcz16_3, hfz16_0, hfz16_1, hfz16_2, hfz16_3⟩ := cells4_ BK178.out))
  go_ret
  exact ⟨by first | rfl | (simp [errW_none, errW_some] <;> rfl) | (simp [*, errW_none, errW_some] <;> rfl), us_ HB.out⟩
 rw [if_pos c5] at H
 have c5b0 : (a0_2 == a1_2) = true := beq_iff_eq.mpr c5
 have c5b1 : (a0_2 != a1_2) = false := bne_eq_false_iff_eq.mpr c5
 clear c5
 replace H := Option.bind_eq_some_iff.mp H
 obtain ⟨t179, A60, H⟩ := H
 replace H : (some t179) = some r := H
 have A6 := mk_ A60
 clear A60
 obtain rfl := Option.some.inj H
 go_enter Try.func22, Try.ntmps22
 go_wp2_with (first | ((with_reducible refine gate_dst (N := 2) rfl ?_); refine box_event ?hg (N := 2) ?hd (cs := #[.int .i64 a0_0, .int .i64 a0_1, .int .i64 a0_2, .slice A0_3 l0_3.length c0_3]) (t := 27) ?hr ?_; (case hd => rfl); (case hg => rfl); (case hr => first | (go_simp; done) | (go_simp; rfl)); intro gb177 hg w7 hbox hb; have n0_ := mk_ (below_step (ub_ HB.out) hb); have n1_ := mk_ (hbox); have n2_ := mk_ ((by rw [hg]; exact (below_size (ub_ HB.out)) : w.heap.size ≤ gb177)); have n3_ := mk_ ((by rw [hg]; exact (below_size (ub_ HB.out)) : w.heap.size ≤ gb177)); clear HB; have HB := n0_; have BK177 := n1_; have GW177 := n2_; have GE177 := ge_ n3_.out; clear n0_ n1_ n2_ n3_; clear hb hbox hg) | ((with_reducible refine gate_dst (N := 3) rfl ?_); refine box_event ?hg (N := 3) ?hd (cs := #[.int .i64 a1_0, .int .i64 a1_1, .int .i64 a1_2, .slice A1_3 l1_3.length c1_3]) (t := 27) ?hr ?_; (case hd => rfl); (case hg => rfl); (case hr => first | (go_simp; done) | (go_simp; rfl)); intro gb178 hg w8 hbox hb; have n0_ := mk_ (blk_below (u_ BK177.out) hb); have n1_ := mk_ (below_step (us_ HB.out) hb); have n2_ := mk_ (hbox); have n3_ := mk_ ((by rw [hg]; exact (below_size (us_ HB.out)) : w.heap.size ≤ gb178)); have n4_ := mk_ ((by rw [hg]; exact (below_size (us_ HB.out)) : w.heap.size ≤ gb178)); have n5_ := mk_ ((by rw [hg]; exact Nat.ne_of_lt (blk_lt (u_ BK177.out)) : gb177 ≠ gb178)); have n6_ := mk_ ((by rw [hg]; exact Nat.ne_of_gt (blk_lt (u_ BK177.out)) : gb178 ≠ gb177)); clear BK177; clear HB; have BK177 := n0_; have HB := n1_; have BK178 := n2_; have GW178 := n3_; have GE178 := ge_ n4_.out; have NB177_178 := nq_ n5_.out; have NB178_177 := nq_ n6_.out; clear n0_ n1_ n2_ n3_ n4_ n5_ n6_; clear hb hbox hg; have hnb9 := NB177_178.out; have hnc9 := NB178_177.out; obtain ⟨hcz10_0, hcz10_1, hcz10_2, hcz10_3, hfz10_0, hfz10_1, hfz10_2, hfz10_3⟩ := cells4_ BK177.out; obtain ⟨hcz11_0, hcz11_1, hcz11_2, hcz11_3, hfz11_0, hfz11_1, hfz11_2, hfz11_3⟩ := cells4_ BK178.out) | (go_at_call 19; (with_reducible refine (laws_sameBytes.calls _ _ l0_3 _ _ l1_3 t179 _ ?side1 ?side2 ?side3 ?side4 A6.out).mono ?_); (case side1 => repeat (first | exact (Kd.C_below HR0_3.out HB.out) | (with_reducible refine Kd.C_alloc ?_ _) | (with_reducible refine Kd.C_drewN ?_ _) | (with_reducible refine Kd.C_drew ?_))); (case side2 => exact HC0_3.out); (case side3 => repeat (first | exact (Kd.C_below HR1_3.out HB.out) | (with_reducible refine Kd.C_alloc ?_ _) | (with_reducible refine Kd.C_drewN ?_ _) | (with_reducible refine Kd.C_drew ?_))); (case side4 => exact HC1_3.out); rintro e w' ⟨rfl, ⟨nd, rfl⟩⟩))
 go_ret
 exact ⟨by first | rfl | (simp [errW_none, errW_some] <;> rfl) | (simp [*, errW_none, errW_some] <;> rfl), us_ HB.out⟩

end Go.Proofs.Ytfcocnhkimbpbaa.MFnMailFrom
