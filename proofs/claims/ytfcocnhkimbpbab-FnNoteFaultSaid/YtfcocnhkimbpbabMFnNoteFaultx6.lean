/- Functions that the law FnNoteFault reaches, each with the proof that the machine's call comes to just its answer; no conditions but those that each theorem states. Printed by a program of this session over the kit's print. -/
import Derived.Test.YtfcocnhkimbpbabMFnNoteFaultx0
import Derived.Test.YtfcocnhkimbpbabMFnNoteFaultx3
import Derived.Test.YtfcocnhkimbpbabMFnNoteFaultx4
import Derived.Test.YtfcocnhkimbpbabMFnNoteFaultx5
namespace Go.Proofs.Ytfcocnhkimbpbab.MFnNoteFault
open Go.RowKit Go.Proofs.YtfcocnhkimbpbabV.PrintWords Go.Proofs.YtfcocnhkimbpbabV.PrintLast Go.Proofs.YtfcocnhkimbpbabV.PrintMore
attribute [local go_sem] max2_int min2_int max_two min_two max_three min_three max_four min_four   -- for this text's walks alone
set_option linter.unusedVariables false
set_option linter.unusedSimpArgs false

/-! ### impl_NoteFrom: function 41 -/
def impl_NoteFrom.f (k : Nat) (l0 : List Int) : Option (Int × Int × List Int × Bool) := if (l0.length : Int) < 4 then (some (0, 0, ([] : List Int), false)) else (if 0 < (l0.length : Int) then ((impl_NumberAt.f k l0 1 2).bind fun t305 => (if 4 ≤ (l0.length : Int) then ((impl_clone_byte.f (l0.drop 4)).bind fun t307 => ((impl_NoteBytes.f k (wrap64 (rd l0 0)) t305 t307).bind fun t311 => ((slices_Equal_byte_byte.f k t311 l0).bind fun t314 => (if t314 = true then (some (wrap64 (rd l0 0), t305, t307, true)) else (some (0, 0, ([] : List Int), false)))))) else (none))) else (none))
theorem impl_NoteFrom.mono : ∀ a0 k, LeO (impl_NoteFrom.f k a0) (impl_NoteFrom.f (k + 1) a0) := by
 intro a0 k
 unfold impl_NoteFrom.f
 repeat' first
   | (with_reducible exact impl_NoteBytes.mono _ _ _ _)
   | (with_reducible exact impl_NumberAt.mono _ _ _ _)
   | (with_reducible exact slices_Equal_byte_byte.mono _ _ _)
   | (with_reducible exact LeO.refl _)
   | (with_reducible exact LeO.none _)
   | (with_reducible refine LeO.ite ?_ ?_)
   | (with_reducible refine LeO.bind ?_ (fun _ => ?_))
   | exact impl_NoteBytes.mono _ _ _ _
   | exact impl_NumberAt.mono _ _ _ _
   | exact slices_Equal_byte_byte.mono _ _ _
   | exact LeO.none _
   | refine LeO.ite ?_ ?_
   | refine LeO.bind ?_ (fun _ => ?_)
def impl_NoteFrom.T3 : Bool × List (List Nat × List Nat) := (true, [([], []), ([0], [0]), ([1], [1]), ([2], [2]), ([], []), ([4], [4]), ([], []), ([6], [6]), ([7, 5], [7]), ([3, 5, 8], [3, 5, 8]), ([], []), ([10, 9, 8, 0, 1, 2, 3, 4, 5, 6, 7, 8, 9, 10], [9, 10])])
def impl_NoteFrom.B3 : List Nat := [0, 1, 3, 7, 0, 16, 0, 64, 240, 511, 0, 2047]
theorem impl_NoteFrom.tab3 : rtab .any (opsOf Try.f41 3) = impl_NoteFrom.T3 := by kernel_rfl
theorem impl_NoteFrom.bits3 : waitsOk impl_NoteFrom.T3.2 impl_NoteFrom.B3 = true := by kernel_rfl
set_option maxHeartbeats 8000000 in
set_option maxRecDepth 100000 in
theorem impl_NoteFrom.calls (k : Nat) (A0 : Option Addr) (c0 : Nat) (l0 : List Int) (r1 : Int) (r2 : Int) (r3 : List Int) (r4 : Bool) (w : World) (hr0 : Kd.C (Kd.int .u8) w A0 l0.length l0) (hc0 : l0.length ≤ c0) (h : impl_NoteFrom.f k l0 = some (r1, r2, r3, r4)) :
  Calls Try.prog 41 #[.slice A0 l0.length c0] w fun e w' => ∃ v2_ : Value, e = .returned (.tuple #[.agg #[.int .i64 r1, .int .i64 r2, v2_], .bool r4]) ∧ Kd.R (Kd.int .u8) 5 w' w.heap.size (fun _ => True) v2_ r3 ∧ Below w.heap.size w w' := by
 have hu68 := Try.underlying68
 have HR0 := mk_ hr0
 have HC0 := mk_ hc0
 clear hr0 hc0
 have HB := mk_ (Below.refl w.heap.size w)
 have H : (if (l0.length : Int) < 4 then (some (0, 0, ([] : List Int), false)) else (if 0 < (l0.length : Int) then ((impl_NumberAt.f k l0 1 2).bind fun t305 => (if 4 ≤ (l0.length : Int) then ((impl_clone_byte.f (l0.drop 4)).bind fun t307 => ((impl_NoteBytes.f k (wrap64 (rd l0 0)) t305 t307).bind fun t311 => ((slices_Equal_byte_byte.f k t311 l0).bind fun t314 => (if t314 = true then (some (wrap64 (rd l0 0), t305, t307, true)) else (some (0, 0, ([] : List Int), false)))))) else (none))) else (none))) = some (r1, r2, r3, r4) := h
 clear h
 by_cases c2 : (l0.length : Int) < 4
 ·rw [if_pos c2] at H
  have c2b0 : decide ((l0.length : Int) < 4) = true := decide_eq_true c2
  have c2b1 : decide (l0.length < 4) = true := decide_eq_true (by omega)
  clear c2
  simp only [Option.some.injEq, Prod.mk.injEq] at H
  obtain ⟨rfl, rfl, rfl, rfl⟩ := H
  go_enter Try.func41, Try.ntmps41
  go_wp2_with (first | ((with_reducible refine gate_dst (N := 2) rfl ?_); refine box_event ?hg (N := 2) ?hd (cs := #[.int .i64 0, .int .i64 0, .slice none 0 0]) (t := 68) ?hr ?_; (case hd => rfl); (case hg => rfl); (case hr => first | (go_simp; done) | (go_simp; rfl)); intro gb303 hg w3 hbox hb; have n0_ := mk_ (below_step (ub_ HB.out) hb); have n1_ := mk_ (hbox); have n2_ := mk_ ((by rw [hg]; exact (below_size (ub_ HB.out)) : w.heap.size ≤ gb303)); have n3_ := mk_ ((by rw [hg]; exact (below_size (ub_ HB.out)) : w.heap.size ≤ gb303)); clear HB; have HB := n0_; have BK303 := n1_; have GW303 := n2_; have GE303 := ge_ n3_.out; clear n0_ n1_ n2_ n3_; clear hb hbox hg; obtain ⟨hcz4_0, hcz4_1, hcz4_2, hfz4_0, hfz4_1, hfz4_2⟩ := cells3_ BK303.out))
  refine bodyPost_ret (results_ct rfl _ _ gb303 68 #[.int .i64 0, .int .i64 0, .slice none 0 0] (0, 0) _ rfl (by (with_reducible repeat (first | refine bn_ ?_ _ | refine bw_ ?_ | refine ba_ ?_ _)); refine blk_put (cs := #[.int .i64 0, .int .i64 0, .slice none 0 0]) ?_ 2 _ rfl; (with_reducible repeat (first | refine bn_ ?_ _ | refine bw_ ?_ | refine ba_ ?_ _)); refine blk_put (cs := #[.int .i64 0, .int .i64 0, .slice none 0 0]) ?_ 1 _ rfl; (with_reducible repeat (first | refine bn_ ?_ _ | refine bw_ ?_ | refine ba_ ?_ _)); refine blk_put (cs := #[.int .i64 0, .int .i64 0, .slice none 0 0]) ?_ 0 _ rfl; (with_reducible repeat (first | refine bn_ ?_ _ | refine bw_ ?_ | refine ba_ ?_ _)); exact BK303.out) Try.underlying68 rfl (by kernel_rfl)) rfl ?_
  exact ⟨_, by first | rfl | (simp [errW_none, errW_some] <;> rfl) | (simp [*, errW_none, errW_some] <;> rfl), by first | exact Kd.R_nil _ _ _ _ _ | exact Kd.N_nil _ _ _ _ _ | exact Kd.V_nil _ _ _ _ _ | exact Kd.Q_nil _ _ _ _ _ | exact Kd.S_nil _ _ _ _ _, us_ HB.out⟩
 rw [if_neg c2] at H
 have c2b0 : decide ((l0.length : Int) < 4) = false := decide_eq_false c2
 have c2b1 : decide (l0.length < 4) = false := decide_eq_false (by omega)
 clear c2
 by_cases c5 : 0 < (l0.length : Int)
 rotate_left
 ·rw [if_neg c5] at H
  exact absurd H (by simp)
 rw [if_pos c5] at H
 have c5b0 : decide (0 < (l0.length : Int)) = true := decide_eq_true c5
 have c5b1 : decide (0 < l0.length) = true := decide_eq_true (by omega)
 clear c5
 replace H := Option.bind_eq_some_iff.mp H
 obtain ⟨t305, A60, H⟩ := H
 replace H : (if 4 ≤ (l0.length : Int) then ((impl_clone_byte.f (l0.drop 4)).bind fun t307 => ((impl_NoteBytes.f k (wrap64 (rd l0 0)) t305 t307).bind fun t311 => ((slices_Equal_byte_byte.f k t311 l0).bind fun t314 => (if t314 = true then (some (wrap64 (rd l0 0), t305, t307, true)) else (some (0, 0, ([] : List Int), false)))))) else (none)) = some (r1, r2, r3, r4) := H
 have A6 := mk_ A60
 clear A60
 by_cases c7 : 4 ≤ (l0.length : Int)
 rotate_left
 ·rw [if_neg c7] at H
  exact absurd H (by simp)
 rw [if_pos c7] at H
 have c7b0 := eq_true c7
 have c7b1 : decide (4 ≤ (l0.length : Int)) = true := decide_eq_true c7
 clear c7
 replace H := Option.bind_eq_some_iff.mp H
 obtain ⟨t307, A80, H⟩ := H
 replace H : ((impl_NoteBytes.f k (wrap64 (rd l0 0)) t305 t307).bind fun t311 => ((slices_Equal_byte_byte.f k t311 l0).bind fun t314 => (if t314 = true then (some (wrap64 (rd l0 0), t305, t307, true)) else (some (0, 0, ([] : List Int), false))))) = some (r1, r2, r3, r4) := H
 have A8 := mk_ A80
 clear A80
 replace H := Option.bind_eq_some_iff.mp H
 obtain ⟨t311, A90, H⟩ := H
 replace H : ((slices_Equal_byte_byte.f k t311 l0).bind fun t314 => (if t314 = true then (some (wrap64 (rd l0 0), t305, t307, true)) else (some (0, 0, ([] : List Int), false)))) = some (r1, r2, r3, r4) := H
 have A9 := mk_ A90
 clear A90
 replace H := Option.bind_eq_some_iff.mp H
 obtain ⟨t314, A100, H⟩ := H
 replace H : (if t314 = true then (some (wrap64 (rd l0 0), t305, t307, true)) else (some (0, 0, ([] : List Int), false))) = some (r1, r2, r3, r4) := H
 have A10 := mk_ A100
 clear A100
 by_cases c11 : t314 = true
 ·subst c11
  have H1 : (some (wrap64 (rd l0 0), t305, t307, true)) = some (r1, r2, r3, r4) := by rw [if_pos rfl] at H; exact H
  clear H
  have H := H1
  clear H1
  simp only [Option.some.injEq, Prod.mk.injEq] at H
  obtain ⟨rfl, rfl, rfl, rfl⟩ := H
  go_enter Try.func41, Try.ntmps41
  try go_wp2_with (first | ((with_reducible refine gate_dst (N := 2) rfl ?_); refine box_event ?hg (N := 2) ?hd (cs := #[.int .i64 0, .int .i64 0, .slice none 0 0]) (t := 68) ?hr ?_; (case hd => rfl); (case hg => rfl); (case hr => first | (go_simp; done) | (go_simp; rfl)); intro gb303 hg w12 hbox hb; have n0_ := mk_ (below_step (ub_ HB.out) hb); have n1_ := mk_ (hbox); have n2_ := mk_ ((by rw [hg]; exact (below_size (ub_ HB.out)) : w.heap.size ≤ gb303)); have n3_ := mk_ ((by rw [hg]; exact (below_size (ub_ HB.out)) : w.heap.size ≤ gb303)); clear HB; have HB := n0_; have BK303 := n1_; have GW303 := n2_; have GE303 := ge_ n3_.out; clear n0_ n1_ n2_ n3_; clear hb hbox hg; obtain ⟨i013, hi013, _, hsz13, _⟩ := info_parts info5; obtain ⟨A13, hcut13, hA13, hC13⟩ := print_drop_of (P := Try.prog) (Value.int .u8) 0 22 5 .i64 Try.underlying22 hi013 hsz13 A0 c0 l0 4 (by omega) (of_decide_eq_true (by first | (with_reducible assumption) | assumption)) HC0.out; have HR306 := mk_ (Kd.C_of_reads (h1 := fun _ => rfl) (hA13 _ (Kd.reads_of_C HR0.out))); have HC306 := mk_ hC13; clear hA13 hC13 hi013 hsz13))
  have n0_ := mk_ (blk_drew BK303.out)
  have n1_ := mk_ (below_drew1 HB.out)
  clear BK303
  clear HB
  have BK303 := n0_
  have HB := n1_
  clear n0_ n1_
  have p304 : 0 ≤ (0 : Int) := (by omega)
  have q304 : 0 < (l0.length : Int) := of_decide_eq_true (by first | (with_reducible assumption) | assumption)
  obtain ⟨ad304, e304, hx304_0⟩ := Kd.at_int HR0.out 0 p304 q304
  have hw304_0 := hx304_0
  (try rw [show ((0 : Int)).toNat = 0 from rfl] at hw304_0)
  (try rw [show 0 * 1 = 0 from rfl] at hw304_0)
  (try rw [Addr.add_zero'] at hw304_0)
  cases e304
  have qi304 : (0 < l0.length) = True := eq_true (by omega)
  (try rw [show ((0 : Int)).toNat = 0 from rfl] at hx304_0)
  (try rw [Addr.add_zero'] at hx304_0)
  replace hx304_0 := (HB.out.cell (lc_ w _ hx304_0)).trans hx304_0
  replace p304 := eq_true p304
  replace q304 := eq_true q304
  refine start_ (n := 12) (S := fun w' => w'.cell? ad304 = some (.int .u8 (rd l0 0))) (ds := []) #[F_, F_, F_, F_, F_, F_, F_, F_, F_, F_, F_, F_] (by kernel_rfl) rfl rfl (((HB.out.cell (lc_ w _ hw304_0)).trans hw304_0)) (fun hHeld => ?_); refine with_tabW impl_NoteFrom.tab3 impl_NoteFrom.bits3 (fun HT_ HW_ => ?_)
  generalize w12.drew = w14 at BK303 HB hx304_0 hHeld ⊢
  refine pure_ (i := 0) (N := some 9) (v := ?_) (a' := ?_) #[T_, F_, F_, F_, F_, F_, F_, F_, F_, F_, F_, F_] rfl rfl (any_of HT_.out (by kernel_rfl)) (fun _ _ _ h => h) (Or.inl ⟨by rfl, ?_⟩) ?_ ?_
  rotate_left
  ·intro w'
   go_simp
   with_reducible rfl
  rotate_left
  ·simp only [Act.put, la_, lz_, ls_, i64_w, i32_w]
   rfl
  refine pure_ (i := 1) (N := some 10) (v := ?_) (a' := ?_) #[T_, T_, F_, F_, F_, F_, F_, F_, F_, F_, F_, F_] rfl rfl (any_of HT_.out (by kernel_rfl)) (fun _ _ _ h => h) (Or.inl ⟨by rfl, ?_⟩) ?_ ?_
  rotate_left
  ·intro w'
   go_simp
   with_reducible rfl
  rotate_left
  ·simp only [Act.put, la_, lz_, ls_, i64_w, i32_w]
   rfl
  refine pure_ (i := 4) (N := some 13) (v := ?_) (a' := ?_) #[T_, T_, F_, F_, T_, F_, F_, F_, F_, F_, F_, F_] rfl rfl (any_of HT_.out (by kernel_rfl)) (fun _ _ _ h => h) (Or.inl ⟨by rfl, ?_⟩) ?_ ?_
  rotate_left
  ·intro w'
   go_simp
   with_reducible rfl
  rotate_left
  ·simp only [Act.put, la_, lz_, ls_, i64_w, i32_w]
   rfl
  refine pure_ (i := 6) (N := some 15) (v := ?_) (a' := ?_) #[T_, T_, F_, F_, T_, F_, T_, F_, F_, F_, F_, F_] rfl rfl (any_of HT_.out (by kernel_rfl)) (fun _ _ _ h => h) (Or.inl ⟨by rfl, ?_⟩) ?_ ?_
  rotate_left
  ·intro w'
   go_simp
   with_reducible rfl
  rotate_left
  ·simp only [Act.put, la_, lz_, ls_, i64_w, i32_w]
   rfl
  refine pure_ (i := 7) (N := some 16) (v := ?_) (a' := ?_) #[T_, T_, F_, F_, T_, F_, T_, T_, F_, F_, F_, F_] rfl rfl (any_of HT_.out (by kernel_rfl)) (fun _ _ _ h => h) (Or.inl ⟨by rfl, ?_⟩) ?_ ?_
  rotate_left
  ·intro w'
   go_simp
   with_reducible rfl
  rotate_left
  ·simp only [Act.put, la_, lz_, ls_, i64_w, i32_w]
   rfl
  refine take_ (i := 2) (N := some 11) (v := ?_) (a' := ?_) #[T_, T_, T_, F_, T_, F_, T_, T_, F_, F_, F_, F_] rfl rfl (take_ofW HT_.out HW_.out (by kernel_rfl)) (fun _ _ _ h => h) (Or.inl ⟨by rfl, ?_⟩) hHeld ?_ ?_
  rotate_left
  ·intro w' s0
   go_simp
   with_reducible rfl
  rotate_left
  ·simp only [Act.put, la_, lz_, ls_, i64_w, i32_w]
   rfl
  refine pure_ (i := 3) (N := some 12) (v := ?_) (a' := ?_) #[T_, T_, T_, T_, T_, F_, T_, T_, F_, F_, F_, F_] rfl rfl (any_of HT_.out (by kernel_rfl)) (fun _ _ _ h => h) (Or.inl ⟨by rfl, ?_⟩) ?_ ?_
  rotate_left
  ·intro w'
   go_simp
   with_reducible rfl
  rotate_left
  ·simp only [Act.put, la_, lz_, ls_, i64_w, i32_w]
   rfl
  refine join_ (σ := Value × Nat) 1 #[T_, T_, T_, T_, T_, T_, T_, T_, T_, T_, T_, F_] (fun s_ => [(14, .int .i64 t305), (17, s_.1), (4, .pointer (some ⟨s_.2, 0, none⟩)), (18, .agg #[.int .i64 (wrap64 (rd l0 0)), .int .i64 t305, s_.1])]) (fun s_ w' => (w'.cell? ad304 = some (.int .u8 (rd l0 0))) ∧ (Kd.R (Kd.int .u8) 5 w' w.heap.size (fun _ => True) s_.1 t307) ∧ (w'.heap[gb303]? = some (.cells #[.int .i64 0, .int .i64 0, .slice none 0 0] 68 (0, 0))) ∧ (w'.heap[s_.2]? = some (.cells #[.int .i64 0, .int .i64 0, .slice none 0 0] 68 (0, 0))) ∧ (w.heap.size ≤ s_.2) ∧ (w.heap.size ≤ s_.2) ∧ (gb303 ≠ s_.2) ∧ (s_.2 ≠ gb303) ∧ (Below w.heap.size w w')) ?_ ?_
  rotate_left
  ·intro hCont
   refine two_ (i := 5) (j := 10) (Ni := some 14) (Nj := some 4) #[T_, T_, T_, T_, T_, T_, T_, T_, F_, F_, F_, F_] #[T_, T_, T_, T_, T_, F_, T_, T_, F_, F_, T_, F_] rfl rfl rfl rfl (two_of HT_.out (by kernel_rfl)) (by decide) (by decide) (fun K hK => ?_) (fun K hK => ?_)
   ·skip
    refine goes_ Try.func77 (by kernel_rfl) rfl #[.slice (some ad304) l0.length c0, .int .i64 1, .int .i64 2] (by rfl) rfl rfl (by (try simp only [lm_, lo_, ln_]); first | done | rfl | (simp only [List.length_drop, List.length_take]; rfl)) ?_
    with_reducible refine (impl_NumberAt.calls k _ _ l0 1 2 t305 _ ?side1 ?side2 A6.out).mono ?_
    (case side1 => repeat (first | exact (Kd.C_below HR0.out HB.out) | (with_reducible refine Kd.C_alloc ?_ _) | (with_reducible refine Kd.C_drewN ?_ _) | (with_reducible refine Kd.C_drew ?_)))
    (case side2 => exact HC0.out)
    rintro e w' ⟨rfl, ⟨nd, rfl⟩⟩
    refine ⟨_, rfl, ?_⟩
    refine hK.out _ _ (((HB.out.cell (lc_ w _ hw304_0)).trans hw304_0)) (fun hHeld => ?_)
    clear hK K
    refine norm_ (a' := ?_) ?_ ?_
    rotate_left
    ·show Act.put _ (some 14) _ = _
     simp only [Act.put, la_, lz_, ls_, i64_w, i32_w]
     rfl
    refine two_ (i := 8) (j := 10) (Ni := some 17) (Nj := some 4) #[T_, T_, T_, T_, T_, T_, T_, T_, T_, F_, F_, F_] #[T_, T_, T_, T_, T_, T_, T_, T_, F_, F_, T_, F_] rfl rfl rfl rfl (two_of HT_.out (by kernel_rfl)) (by decide) (by decide) (fun K hK => ?_) (fun K hK => ?_)
    ·skip
     refine goes_ Try.func78 (by kernel_rfl) rfl #[.slice A13 (l0.drop 4).length (c0 - 4)] (by rfl) rfl rfl (by (try simp only [List.map_toArray, List.map_cons, List.map_nil]); first | done | (rw [show (l0.drop 4).length = (l0.length - 4) from List.length_drop] <;> rfl) | rfl | (simp only [List.length_drop, List.length_take]; rfl)) ?_
     with_reducible refine (impl_clone_byte.calls _ _ (l0.drop 4) t307 _ ?side1 ?side2 A8.out).mono ?_
     (case side1 => repeat (first | exact (Kd.C_below HR306.out (us_ HB.out)) | (with_reducible refine Kd.C_alloc ?_ _) | (with_reducible refine Kd.C_drewN ?_ _) | (with_reducible refine Kd.C_drew ?_)))
     (case side2 => exact HC306.out)
     rintro e w15 ⟨v308, rfl, ho0, hb⟩
     refine ⟨_, rfl, ?_⟩
     have n0_ := mk_ (Kd.R_lower ho0 (below_size (us_ HB.out)))
     have n1_ := mk_ (blk_below (u_ BK303.out) hb)
     have n2_ := mk_ (below_step (us_ HB.out) hb)
     clear BK303
     clear HB
     have HO309 := n0_
     have BK303 := n1_
     have HB := n2_
     clear n0_ n1_ n2_
     (try clear hb)
     (try clear hb2)
     (try clear hk)
     (try clear hi)
     (try clear ho0)
     obtain ⟨Ao16, co16, eo16⟩ := Kd.R_slice HO309.out
     (first | subst eo16 | (injection eo16 with f1_ f2_ f3_; have f4_ := f1_.symm; have f5_ := f3_.symm; clear f1_ f2_ f3_; subst f4_; subst f5_))
     refine hK.out _ _ (((HB.out.cell (lc_ w _ hw304_0)).trans hw304_0)) (fun hHeld => ?_)
     clear hK K
     refine norm_ (a' := ?_) ?_ ?_
     rotate_left
     ·show Act.put _ (some 17) _ = _
      simp only [Act.put, la_, lz_, ls_, i64_w, i32_w]
      rfl
     refine pure_ (i := 9) (N := some 18) (v := ?_) (a' := ?_) #[T_, T_, T_, T_, T_, T_, T_, T_, T_, T_, F_, F_] rfl rfl (any_of HT_.out (by kernel_rfl)) (fun _ _ _ h => h) (Or.inl ⟨by rfl, ?_⟩) ?_ ?_
     rotate_left
     ·intro w'
      go_simp
      with_reducible rfl
     rotate_left
     ·simp only [Act.put, la_, lz_, ls_, i64_w, i32_w]
      rfl
     refine one_ (i := 10) (N := some 4) #[T_, T_, T_, T_, T_, T_, T_, T_, T_, T_, T_, F_] rfl rfl (one_of HT_.out (by kernel_rfl)) (by decide) (fun K hK => ?_)
     refine box_step ?hg (N := 4) ?hd (cs := #[.int .i64 0, .int .i64 0, .slice none 0 0]) (t := 68) ?hr ?_; (case hd => rfl); (case hg => rfl); (case hr => first | (go_simp; done) | (go_simp; rfl))
     intro gb310 hg w17 hbox hb
     have n0_ := mk_ (Kd.R_below (Kd.ur_ HO309.out) hb)
     have n1_ := mk_ (blk_below (u_ BK303.out) hb)
     have n2_ := mk_ (below_step (us_ HB.out) hb)
     have n3_ := mk_ (hbox)
     have n4_ := mk_ ((by rw [hg]; exact (below_size (us_ HB.out)) : w.heap.size ≤ gb310))
     have n5_ := mk_ ((by rw [hg]; exact (below_size (us_ HB.out)) : w.heap.size ≤ gb310))
     have n6_ := mk_ ((by rw [hg]; exact Nat.ne_of_lt (blk_lt (u_ BK303.out)) : gb303 ≠ gb310))
     have n7_ := mk_ ((by rw [hg]; exact Nat.ne_of_gt (blk_lt (u_ BK303.out)) : gb310 ≠ gb303))
     clear HO309
     clear BK303
     clear HB
     have HO309 := n0_
     have BK303 := n1_
     have HB := n2_
     have BK310 := n3_
     have GW310 := n4_
     have GE310 := ge_ n5_.out
     have NB303_310 := nq_ n6_.out
     have NB310_303 := nq_ n7_.out
     clear n0_ n1_ n2_ n3_ n4_ n5_ n6_ n7_
     clear hb hbox hg
     refine hK.out _ _ (((HB.out.cell (lc_ w _ hw304_0)).trans hw304_0)) (fun hHeld => ?_)
     clear hK K
     refine norm_ (a' := ?_) ?_ ?_
     rotate_left
     ·show Act.put _ (some 4) _ = _
      simp only [Act.put, la_, lz_, ls_, i64_w, i32_w]
      rfl
     exact norm_ (by simp only [putAll, Act.put, la_, lz_, ls_]) (hCont (.slice Ao16 t307.length co16, gb310) _ ⟨hHeld, (Kd.ur_ HO309.out), (u_ BK303.out), (u_ BK310.out), GW310.out, GE310.out, NB303_310.out, NB310_303.out, (us_ HB.out)⟩)
    skip
    refine box_step ?hg (N := 4) ?hd (cs := #[.int .i64 0, .int .i64 0, .slice none 0 0]) (t := 68) ?hr ?_; (case hd => rfl); (case hg => rfl); (case hr => first | (go_simp; done) | (go_simp; rfl))
    intro gb310 hg w15 hbox hb
    have n0_ := mk_ (blk_below (u_ BK303.out) hb)
    have n1_ := mk_ (below_step (us_ HB.out) hb)
    have n2_ := mk_ (hbox)
    have n3_ := mk_ ((by rw [hg]; exact (below_size (us_ HB.out)) : w.heap.size ≤ gb310))
    have n4_ := mk_ ((by rw [hg]; exact (below_size (us_ HB.out)) : w.heap.size ≤ gb310))
    have n5_ := mk_ ((by rw [hg]; exact Nat.ne_of_lt (blk_lt (u_ BK303.out)) : gb303 ≠ gb310))
    have n6_ := mk_ ((by rw [hg]; exact Nat.ne_of_gt (blk_lt (u_ BK303.out)) : gb310 ≠ gb303))
    clear BK303
    clear HB
    have BK303 := n0_
    have HB := n1_
    have BK310 := n2_
    have GW310 := n3_
    have GE310 := ge_ n4_.out
    have NB303_310 := nq_ n5_.out
    have NB310_303 := nq_ n6_.out
    clear n0_ n1_ n2_ n3_ n4_ n5_ n6_
    clear hb hbox hg
    refine hK.out _ _ (((HB.out.cell (lc_ w _ hw304_0)).trans hw304_0)) (fun hHeld => ?_)
    clear hK K
    refine norm_ (a' := ?_) ?_ ?_
    rotate_left
    ·show Act.put _ (some 4) _ = _
     simp only [Act.put, la_, lz_, ls_, i64_w, i32_w]
     rfl
    refine one_ (i := 8) (N := some 17) #[T_, T_, T_, T_, T_, T_, T_, T_, T_, F_, T_, F_] rfl rfl (one_of HT_.out (by kernel_rfl)) (by decide) (fun K hK => ?_)
    refine goes_ Try.func78 (by kernel_rfl) rfl #[.slice A13 (l0.drop 4).length (c0 - 4)] (by rfl) rfl rfl (by (try simp only [List.map_toArray, List.map_cons, List.map_nil]); first | done | (rw [show (l0.drop 4).length = (l0.length - 4) from List.length_drop] <;> rfl) | rfl | (simp only [List.length_drop, List.length_take]; rfl)) ?_
    with_reducible refine (impl_clone_byte.calls _ _ (l0.drop 4) t307 _ ?side1 ?side2 A8.out).mono ?_
    (case side1 => repeat (first | exact (Kd.C_below HR306.out HB.out) | (with_reducible refine Kd.C_alloc ?_ _) | (with_reducible refine Kd.C_drewN ?_ _) | (with_reducible refine Kd.C_drew ?_)))
    (case side2 => exact HC306.out)
    rintro e w16 ⟨v308, rfl, ho0, hb⟩
    refine ⟨_, rfl, ?_⟩
    have n0_ := mk_ (Kd.R_lower ho0 (below_size (us_ HB.out)))
    have n1_ := mk_ (blk_below (u_ BK303.out) hb)
    have n2_ := mk_ (blk_below (u_ BK310.out) hb)
    have n3_ := mk_ (below_step (us_ HB.out) hb)
    clear BK303
    clear BK310
    clear HB
    have HO309 := n0_
    have BK303 := n1_
    have BK310 := n2_
    have HB := n3_
    clear n0_ n1_ n2_ n3_
    (try clear hb)
    (try clear hb2)
    (try clear hk)
    (try clear hi)
    (try clear ho0)
    obtain ⟨Ao17, co17, eo17⟩ := Kd.R_slice HO309.out
    (first | subst eo17 | (injection eo17 with f1_ f2_ f3_; have f4_ := f1_.symm; have f5_ := f3_.symm; clear f1_ f2_ f3_; subst f4_; subst f5_))
    refine hK.out _ _ (((HB.out.cell (lc_ w _ hw304_0)).trans hw304_0)) (fun hHeld => ?_)
    clear hK K
    refine norm_ (a' := ?_) ?_ ?_
    rotate_left
    ·show Act.put _ (some 17) _ = _
     simp only [Act.put, la_, lz_, ls_, i64_w, i32_w]
     rfl
    refine pure_ (i := 9) (N := some 18) (v := ?_) (a' := ?_) #[T_, T_, T_, T_, T_, T_, T_, T_, T_, T_, T_, F_] rfl rfl (any_of HT_.out (by kernel_rfl)) (fun _ _ _ h => h) (Or.inl ⟨by rfl, ?_⟩) ?_ ?_
    rotate_left
    ·intro w'
     go_simp
     with_reducible rfl
    rotate_left
    ·simp only [Act.put, la_, lz_, ls_, i64_w, i32_w]
     rfl
    exact norm_ (by simp only [putAll, Act.put, la_, lz_, ls_]) (hCont (.slice Ao17 t307.length co17, gb310) _ ⟨hHeld, (Kd.ur_ HO309.out), (u_ BK303.out), (u_ BK310.out), GW310.out, GE310.out, NB303_310.out, NB310_303.out, (us_ HB.out)⟩)
   skip
   refine box_step ?hg (N := 4) ?hd (cs := #[.int .i64 0, .int .i64 0, .slice none 0 0]) (t := 68) ?hr ?_; (case hd => rfl); (case hg => rfl); (case hr => first | (go_simp; done) | (go_simp; rfl))
   intro gb310 hg w15 hbox hb
   have n0_ := mk_ (blk_below (u_ BK303.out) hb)
   have n1_ := mk_ (below_step (us_ HB.out) hb)
   have n2_ := mk_ (hbox)
   have n3_ := mk_ ((by rw [hg]; exact (below_size (us_ HB.out)) : w.heap.size ≤ gb310))
   have n4_ := mk_ ((by rw [hg]; exact (below_size (us_ HB.out)) : w.heap.size ≤ gb310))
   have n5_ := mk_ ((by rw [hg]; exact Nat.ne_of_lt (blk_lt (u_ BK303.out)) : gb303 ≠ gb310))
   have n6_ := mk_ ((by rw [hg]; exact Nat.ne_of_gt (blk_lt (u_ BK303.out)) : gb310 ≠ gb303))
   clear BK303
   clear HB
   have BK303 := n0_
   have HB := n1_
   have BK310 := n2_
   have GW310 := n3_
   have GE310 := ge_ n4_.out
   have NB303_310 := nq_ n5_.out
   have NB310_303 := nq_ n6_.out
   clear n0_ n1_ n2_ n3_ n4_ n5_ n6_
   clear hb hbox hg
   refine hK.out _ _ (((HB.out.cell (lc_ w _ hw304_0)).trans hw304_0)) (fun hHeld => ?_)
   clear hK K
   refine norm_ (a' := ?_) ?_ ?_
   rotate_left
   ·show Act.put _ (some 4) _ = _
    simp only [Act.put, la_, lz_, ls_, i64_w, i32_w]
    rfl
   refine one_ (i := 5) (N := some 14) #[T_, T_, T_, T_, T_, T_, T_, T_, F_, F_, T_, F_] rfl rfl (one_of HT_.out (by kernel_rfl)) (by decide) (fun K hK => ?_)
   refine goes_ Try.func77 (by kernel_rfl) rfl #[.slice (some ad304) l0.length c0, .int .i64 1, .int .i64 2] (by rfl) rfl rfl (by (try simp only [lm_, lo_, ln_]); first | done | rfl | (simp only [List.length_drop, List.length_take]; rfl)) ?_
   with_reducible refine (impl_NumberAt.calls k _ _ l0 1 2 t305 _ ?side1 ?side2 A6.out).mono ?_
   (case side1 => repeat (first | exact (Kd.C_below HR0.out HB.out) | (with_reducible refine Kd.C_alloc ?_ _) | (with_reducible refine Kd.C_drewN ?_ _) | (with_reducible refine Kd.C_drew ?_)))
   (case side2 => exact HC0.out)
   rintro e w' ⟨rfl, ⟨nd, rfl⟩⟩
   refine ⟨_, rfl, ?_⟩
   refine hK.out _ _ (((HB.out.cell (lc_ w _ hw304_0)).trans hw304_0)) (fun hHeld => ?_)
   clear hK K
   refine norm_ (a' := ?_) ?_ ?_
   rotate_left
   ·show Act.put _ (some 14) _ = _
    simp only [Act.put, la_, lz_, ls_, i64_w, i32_w]
    rfl
   refine one_ (i := 8) (N := some 17) #[T_, T_, T_, T_, T_, T_, T_, T_, T_, F_, T_, F_] rfl rfl (one_of HT_.out (by kernel_rfl)) (by decide) (fun K hK => ?_)
   refine goes_ Try.func78 (by kernel_rfl) rfl #[.slice A13 (l0.drop 4).length (c0 - 4)] (by rfl) rfl rfl (by (try simp only [List.map_toArray, List.map_cons, List.map_nil]); first | done | (rw [show (l0.drop 4).length = (l0.length - 4) from List.length_drop] <;> rfl) | rfl | (simp only [List.length_drop, List.length_take]; rfl)) ?_
   with_reducible refine (impl_clone_byte.calls _ _ (l0.drop 4) t307 _ ?side1 ?side2 A8.out).mono ?_
   (case side1 => repeat (first | exact (Kd.C_below HR306.out (us_ HB.out)) | (with_reducible refine Kd.C_alloc ?_ _) | (with_reducible refine Kd.C_drewN ?_ _) | (with_reducible refine Kd.C_drew ?_)))
   (case side2 => exact HC306.out)
   rintro e w16 ⟨v308, rfl, ho0, hb⟩
   refine ⟨_, rfl, ?_⟩
   have n0_ := mk_ (Kd.R_lower ho0 (below_size (us_ HB.out)))
   have n1_ := mk_ (blk_below (u_ BK303.out) hb)
   have n2_ := mk_ (blk_below (u_ BK310.out) hb)
   have n3_ := mk_ (below_step (us_ HB.out) hb)
   clear BK303
   clear BK310
   clear HB
   have HO309 := n0_
   have BK303 := n1_
   have BK310 := n2_
   have HB := n3_
   clear n0_ n1_ n2_ n3_
   (try clear hb)
   (try clear hb2)
   (try clear hk)
   (try clear hi)
   (try clear ho0)
   obtain ⟨Ao17, co17, eo17⟩ := Kd.R_slice HO309.out
   (first | subst eo17 | (injection eo17 with f1_ f2_ f3_; have f4_ := f1_.symm; have f5_ := f3_.symm; clear f1_ f2_ f3_; subst f4_; subst f5_))
   refine hK.out _ _ (((HB.out.cell (lc_ w _ hw304_0)).trans hw304_0)) (fun hHeld => ?_)
   clear hK K
   refine norm_ (a' := ?_) ?_ ?_
   rotate_left
   ·show Act.put _ (some 17) _ = _
    simp only [Act.put, la_, lz_, ls_, i64_w, i32_w]
    rfl
   refine pure_ (i := 9) (N := some 18) (v := ?_) (a' := ?_) #[T_, T_, T_, T_, T_, T_, T_, T_, T_, T_, T_, F_] rfl rfl (any_of HT_.out (by kernel_rfl)) (fun _ _ _ h => h) (Or.inl ⟨by rfl, ?_⟩) ?_ ?_
   rotate_left
   ·intro w'
    go_simp
    with_reducible rfl
   rotate_left
   ·simp only [Act.put, la_, lz_, ls_, i64_w, i32_w]
    rfl
   exact norm_ (by simp only [putAll, Act.put, la_, lz_, ls_]) (hCont (.slice Ao17 t307.length co17, gb310) _ ⟨hHeld, (Kd.ur_ HO309.out), (u_ BK303.out), (u_ BK310.out), GW310.out, GE310.out, NB303_310.out, NB310_303.out, (us_ HB.out)⟩)
  rintro ⟨v308, gb310⟩ w18 ⟨hS_, h0_, h1_, h2_, h3_, h4_, h5_, h6_, h7_⟩
  have n0_ : Aside0 (Kd.R (Kd.int .u8) 5 w18 w.heap.size (fun _ => True) v308 t307) := ⟨h0_⟩
  have n1_ : Aside0 (w18.heap[gb303]? = some (.cells #[.int .i64 0, .int .i64 0, .slice none 0 0] 68 (0, 0))) := ⟨h1_⟩
  have n2_ : Aside0 (w18.heap[gb310]? = some (.cells #[.int .i64 0, .int .i64 0, .slice none 0 0] 68 (0, 0))) := ⟨h2_⟩
  have n3_ : Aside0 (w.heap.size ≤ gb310) := ⟨h3_⟩
  have n4_ : Aside0 (w.heap.size ≤ gb310) := ⟨h4_⟩
  have n5_ : Aside0 (gb303 ≠ gb310) := ⟨h5_⟩
  have n6_ : Aside0 (gb310 ≠ gb303) := ⟨h6_⟩
  have n7_ : Aside0 (Below w.heap.size w w18) := ⟨h7_⟩
  clear BK303
  clear HB
  clear h0_ h1_ h2_ h3_ h4_ h5_ h6_ h7_
  have HO309 := n0_
  have BK303 := n1_
  have BK310 := n2_
  have GW310 := n3_
  have GE310 := ge_ n4_.out
  have NB303_310 := nq_ n5_.out
  have NB310_303 := nq_ n6_.out
  have HB := n7_
  clear n0_ n1_ n2_ n3_ n4_ n5_ n6_ n7_
  have hHeld : w18.cell? ad304 = some (.int .u8 (rd l0 0)) := hS_
  obtain ⟨Ao19, co19, eo19⟩ := Kd.R_slice HO309.out
  (first | subst eo19 | (injection eo19 with f1_ f2_ f3_; have f4_ := f1_.symm; have f5_ := f3_.symm; clear f1_ f2_ f3_; subst f4_; subst f5_))
  refine norm_ (a' := ?_) ?_ ?_
  rotate_left
  ·simp only [putAll, Act.put, la_, lz_, ls_]
   rfl
  refine one_ (i := 11) (N := none) #[T_, T_, T_, T_, T_, T_, T_, T_, T_, T_, T_, T_] rfl rfl (one_of HT_.out (by kernel_rfl)) (by decide) (fun K hK => ?_)
  have hs20 : w18.cell? ⟨gb310, 0, none⟩ = some (.int .i64 0) := (blk_cell BK310.out 0).trans rfl
  have hfs20 := blk_frozen BK310.out 0
  have hns20_0 := NB303_310.out
  have hms20_0 := NB310_303.out
  have hs21 : w18.cell? ⟨gb310, 1, none⟩ = some (.int .i64 0) := (blk_cell BK310.out 1).trans rfl
  have hfs21 := blk_frozen BK310.out 1
  have hns21_0 := NB303_310.out
  have hms21_0 := NB310_303.out
  have hs22 : w18.cell? ⟨gb310, 2, none⟩ = some (.slice none 0 0) := (blk_cell BK310.out 2).trans rfl
  have hfs22 := blk_frozen BK310.out 2
  have hns22_0 := NB303_310.out
  have hms22_0 := NB310_303.out
  refine skip_ (w1 := ?_) (by rfl) rfl ?_ ?_
  rotate_left
  ·go_simp
   rfl
  refine hK.out _ _ (((cell_far (p := ⟨gb310, _, none⟩) (by first | exact (ne1_ (by have := lc_ _ _ hw304_0; first | rwa [add_block] at this | exact this) GW310.out) | (rw [add_block]; exact (ne1_ (by have := lc_ _ _ hw304_0; first | rwa [add_block] at this | exact this) GW310.out)) | (show (Addr.add _ _).block ≠ _; rw [add_block]; exact (ne1_ (by have := lc_ _ _ hw304_0; first | rwa [add_block] at this | exact this) GW310.out)) | (dsimp only; exact (ne1_ (by have := lc_ _ _ hw304_0; first | rwa [add_block] at this | exact this) GW310.out))) _).trans (((cell_far (p := ⟨gb310, _, none⟩) (by first | exact (ne1_ (by have := lc_ _ _ hw304_0; first | rwa [add_block] at this | exact this) GW310.out) | (rw [add_block]; exact (ne1_ (by have := lc_ _ _ hw304_0; first | rwa [add_block] at this | exact this) GW310.out)) | (show (Addr.add _ _).block ≠ _; rw [add_block]; exact (ne1_ (by have := lc_ _ _ hw304_0; first | rwa [add_block] at this | exact this) GW310.out)) | (dsimp only; exact (ne1_ (by have := lc_ _ _ hw304_0; first | rwa [add_block] at this | exact this) GW310.out))) _).trans (((cell_far (p := ⟨gb310, _, none⟩) (by first | exact (ne1_ (by have := lc_ _ _ hw304_0; first | rwa [add_block] at this | exact this) GW310.out) | (rw [add_block]; exact (ne1_ (by have := lc_ _ _ hw304_0; first | rwa [add_block] at this | exact this) GW310.out)) | (show (Addr.add _ _).block ≠ _; rw [add_block]; exact (ne1_ (by have := lc_ _ _ hw304_0; first | rwa [add_block] at this | exact this) GW310.out)) | (dsimp only; exact (ne1_ (by have := lc_ _ _ hw304_0; first | rwa [add_block] at this | exact this) GW310.out))) _).trans (hHeld))))))) (fun hHeld => ?_)
  clear hK K
  refine done_ (done_of HT_.out (by kernel_rfl)) ?_
  have n0_ : Aside0 (Kd.R (Kd.int .u8) 5 (((w18.setCell ⟨gb310, 0, none⟩ (.int .i64 (wrap64 (rd l0 0)))).setCell ⟨gb310, 1, none⟩ (.int .i64 t305)).setCell ⟨gb310, 2, none⟩ (.slice Ao19 t307.length co19)) w.heap.size (fun _ => True) (.slice Ao19 t307.length co19) t307) := ⟨by (with_reducible repeat (first | apply Kd.R_alloc | apply Kd.R_drewN | apply Kd.R_drew)); exact Kd.R_mono (Kd.R_far (p := ⟨gb310, 2, none⟩) (Kd.R_far (p := ⟨gb310, 1, none⟩) (Kd.R_far (p := ⟨gb310, 0, none⟩) (Kd.R_types HO309.out BK310.out (by decide)) (fun _ hk => hk.2) (.int .i64 (wrap64 (rd l0 0)))) (fun _ hk => hk.2) (.int .i64 t305)) (fun _ hk => hk.2) (.slice Ao19 t307.length co19)) (fun _ hk => trivial)⟩
  have n1_ : Aside0 ((((w18.setCell ⟨gb310, 0, none⟩ (.int .i64 (wrap64 (rd l0 0)))).setCell ⟨gb310, 1, none⟩ (.int .i64 t305)).setCell ⟨gb310, 2, none⟩ (.slice Ao19 t307.length co19)).heap[gb303]? = some (.cells #[.int .i64 0, .int .i64 0, .slice none 0 0] 68 (0, 0))) := ⟨uf_ BK303.out⟩
  have n2_ : Aside0 ((((w18.setCell ⟨gb310, 0, none⟩ (.int .i64 (wrap64 (rd l0 0)))).setCell ⟨gb310, 1, none⟩ (.int .i64 t305)).setCell ⟨gb310, 2, none⟩ (.slice Ao19 t307.length co19)).heap[gb310]? = some (.cells #[.int .i64 (wrap64 (rd l0 0)), .int .i64 t305, .slice Ao19 t307.length co19] 68 (0, 0))) := ⟨by (with_reducible repeat (first | refine bn_ ?_ _ | refine bw_ ?_ | refine ba_ ?_ _)); refine blk_put (cs := #[.int .i64 (wrap64 (rd l0 0)), .int .i64 t305, .slice none 0 0]) ?_ 2 _ rfl; (with_reducible repeat (first | refine bn_ ?_ _ | refine bw_ ?_ | refine ba_ ?_ _)); refine blk_put (cs := #[.int .i64 (wrap64 (rd l0 0)), .int .i64 0, .slice none 0 0]) ?_ 1 _ rfl; (with_reducible repeat (first | refine bn_ ?_ _ | refine bw_ ?_ | refine ba_ ?_ _)); refine blk_put (cs := #[.int .i64 0, .int .i64 0, .slice none 0 0]) ?_ 0 _ rfl; (with_reducible repeat (first | refine bn_ ?_ _ | refine bw_ ?_ | refine ba_ ?_ _)); exact BK310.out⟩
  have n3_ : Aside0 (Below w.heap.size w (((w18.setCell ⟨gb310, 0, none⟩ (.int .i64 (wrap64 (rd l0 0)))).setCell ⟨gb310, 1, none⟩ (.int .i64 t305)).setCell ⟨gb310, 2, none⟩ (.slice Ao19 t307.length co19))) := ⟨us_ HB.out⟩
  (try clear HO309)
  (try clear BK303)
  (try clear BK310)
  (try clear HB)
  generalize (((w18.setCell ⟨gb310, 0, none⟩ (.int .i64 (wrap64 (rd l0 0)))).setCell ⟨gb310, 1, none⟩ (.int .i64 t305)).setCell ⟨gb310, 2, none⟩ (.slice Ao19 t307.length co19)) = w23 at n0_ n1_ n2_ n3_ ⊢
  have HO309 := n0_
  have BK303 := n1_
  have BK310 := n2_
  have HB := n3_
  clear n0_ n1_ n2_ n3_
  have hnb24 := NB310_303.out
  have hnc24 := NB303_310.out
  obtain ⟨hcz25_0, hcz25_1, hcz25_2, hfz25_0, hfz25_1, hfz25_2⟩ := cells3_ BK310.out
  try go_wp2_with (first | ((with_reducible refine gate_callee (f := 80) rfl ?_); refine goesL_ (some 20) rfl rfl Try.func80 (by kernel_rfl) rfl #[.agg #[.int .i64 (wrap64 (rd l0 0)), .int .i64 t305, .slice Ao19 t307.length co19]] rfl (by (try simp only [lm_, lo_, ln_]); first | done | rfl | (simp only [List.length_drop, List.length_take]; rfl)) ?_; (with_reducible refine (impl_NoteBytes.calls k (wrap64 (rd l0 0)) t305 (fun k_ => some k_ = (.slice Ao19 t307.length co19 : Value).ownBlock) _ _ t307 t311 _ ?side1 A9.out).mono ?_); (case side1 => exact Kd.R_V (Kd.R_tight rfl (Kd.R_types (Kd.R_types (HO309.out) BK303.out (by decide)) BK310.out (by decide)))); rintro e w26 ⟨v312, rfl, ho0, hb⟩; refine ⟨_, rfl, ?_⟩; have n0_ := mk_ (Kd.R_elder' (Kd.ur_ HO309.out) (Kd.R_base ho0) hb); have n1_ := mk_ (Kd.R_lower (Kd.R_new' (Kd.R_mono (ok' := fun k_ => True) ho0 (fun _ hk_ => trivial)) (Kd.R_lt (Kd.ur_ HO309.out))) (below_size (us_ HB.out))); have n2_ := mk_ (blk_below (u_ BK303.out) hb); have n3_ := mk_ (blk_below (u_ BK310.out) hb); have n4_ := mk_ (below_step (us_ HB.out) hb); clear HO309; clear BK303; clear BK310; clear HB; have HO309 := n0_; have HO313 := n1_; have BK303 := n2_; have BK310 := n3_; have HB := n4_; clear n0_ n1_ n2_ n3_ n4_; (try clear hb); (try clear hb2); (try clear hk); (try clear hi); (try clear ho0); obtain ⟨Ao27, co27, eo27⟩ := Kd.R_slice HO313.out; subst eo27) | ((with_reducible refine gate_callee (f := 79) rfl ?_); refine goesL_ (some 22) rfl rfl Try.func79 (by kernel_rfl) rfl #[.slice Ao27 t311.length co27, .slice (some ad304) l0.length c0] rfl (by (try simp only [lm_, lo_, ln_]); first | done | rfl | (simp only [List.length_drop, List.length_take]; rfl)) ?_; (with_reducible refine (slices_Equal_byte_byte.calls k _ _ t311 _ _ l0 true _ ?side1 ?side2 ?side3 ?side4 A10.out).mono ?_); (case side1 => repeat (first | exact (Kd.R_reads' HO313.out).2.2 | (with_reducible refine Kd.C_alloc ?_ _) | (with_reducible refine Kd.C_drewN ?_ _) | (with_reducible refine Kd.C_drew ?_))); (case side2 => exact (Kd.R_reads' HO313.out).2.1); (case side3 => repeat (first | exact (Kd.C_below HR0.out HB.out) | (with_reducible refine Kd.C_alloc ?_ _) | (with_reducible refine Kd.C_drewN ?_ _) | (with_reducible refine Kd.C_drew ?_))); (case side4 => exact HC0.out); rintro e w' ⟨rfl, ⟨nd, rfl⟩⟩; refine ⟨_, rfl, ?_⟩; (try simp only [World.drewN_drewN]); (try (rw [drewN_self w26]; generalize hq_ : World.drewN w26 _ = w26; have n0_ : Aside0 (Kd.R (Kd.int .u8) 5 w26 w.heap.size (fun k_ => some k_ ≠ (.slice Ao27 t311.length co27 : Value).ownBlock) (.slice Ao19 t307.length co19) t307) := ⟨by rw [← hq_]; exact (by (with_reducible repeat (first | apply Kd.R_alloc | apply Kd.R_drewN | apply Kd.R_drew)); exact Kd.R_mono HO309.out (fun _ hk => hk.2))⟩; have n1_ : Aside0 (Kd.R (Kd.int .u8) 5 w26 w.heap.size (fun k_ => some k_ ≠ (.slice Ao19 t307.length co19 : Value).ownBlock) (.slice Ao27 t311.length co27) t311) := ⟨by rw [← hq_]; exact (by (with_reducible repeat (first | apply Kd.R_alloc | apply Kd.R_drewN | apply Kd.R_drew)); exact Kd.R_mono HO313.out (fun _ hk => hk.2))⟩; have n2_ : Aside0 (w26.heap[gb303]? = some (.cells #[.int .i64 0, .int .i64 0, .slice none 0 0] 68 (0, 0))) := ⟨by rw [← hq_]; exact (u_ BK303.out)⟩; have n3_ : Aside0 (w26.heap[gb310]? = some (.cells #[.int .i64 (wrap64 (rd l0 0)), .int .i64 t305, .slice Ao19 t307.length co19] 68 (0, 0))) := ⟨by rw [← hq_]; exact (u_ BK310.out)⟩; have n4_ : Aside0 (Below w.heap.size w w26) := ⟨by rw [← hq_]; exact (us_ HB.out)⟩; clear HO309 HO313 BK303 BK310 HB hq_; have HO309 := n0_; have HO313 := n1_; have BK303 := n2_; have BK310 := n3_; have HB := n4_; clear n0_ n1_ n2_ n3_ n4_)); obtain ⟨hcz28_0, hcz28_1, hcz28_2, hfz28_0, hfz28_1, hfz28_2⟩ := cells3_ BK310.out; obtain ⟨hcz29_0, hcz29_1, hcz29_2, hfz29_0, hfz29_1, hfz29_2⟩ := cells3_ BK303.out))
  refine bodyPost_ret (results_ct rfl _ _ gb303 68 #[.int .i64 (wrap64 (rd l0 0)), .int .i64 t305, .slice Ao19 t307.length co19] (0, 0) _ rfl (by (with_reducible repeat (first | refine bn_ ?_ _ | refine bw_ ?_ | refine ba_ ?_ _)); refine blk_put (cs := #[.int .i64 (wrap64 (rd l0 0)), .int .i64 t305, .slice none 0 0]) ?_ 2 _ rfl; (with_reducible repeat (first | refine bn_ ?_ _ | refine bw_ ?_ | refine ba_ ?_ _)); refine blk_put (cs := #[.int .i64 (wrap64 (rd l0 0)), .int .i64 0, .slice none 0 0]) ?_ 1 _ rfl; (with_reducible repeat (first | refine bn_ ?_ _ | refine bw_ ?_ | refine ba_ ?_ _)); refine blk_put (cs := #[.int .i64 0, .int .i64 0, .slice none 0 0]) ?_ 0 _ rfl; (with_reducible repeat (first | refine bn_ ?_ _ | refine bw_ ?_ | refine ba_ ?_ _)); exact BK303.out) Try.underlying68 rfl (by kernel_rfl)) rfl ?_
  exact ⟨_, by first | rfl | (simp [errW_none, errW_some] <;> rfl) | (simp [*, errW_none, errW_some] <;> rfl), by (with_reducible repeat (first | apply Kd.R_alloc | apply Kd.R_drewN | apply Kd.R_drew)); exact Kd.R_mono (Kd.R_far (p := ⟨gb303, 2, none⟩) (Kd.R_far (p := ⟨gb303, 1, none⟩) (Kd.R_far (p := ⟨gb303, 0, none⟩) (Kd.R_types HO309.out BK303.out (by decide)) (fun _ hk => hk.2) (.int .i64 (wrap64 (rd l0 0)))) (fun _ hk => hk.2) (.int .i64 t305)) (fun _ hk => hk.2) (.slice Ao19 t307.length co19)) (fun _ hk => trivial), us_ HB.out⟩
 replace c11 := Bool.eq_false_iff.mpr c11
 subst c11
 have H1 : (some (0, 0, ([] : List Int), false)) = some (r1, r2, r3, r4) := by rw [if_neg (show ¬ (false = true) by decide)] at H; exact H
 clear H
 have H := H1
 clear H1
 simp only [Option.some.injEq, Prod.mk.injEq] at H
 obtain ⟨rfl, rfl, rfl, rfl⟩ := H
 go_enter Try.func41, Try.ntmps41
 try go_wp2_with (first | ((with_reducible refine gate_dst (N := 2) rfl ?_); refine box_event ?hg (N := 2) ?hd (cs := #[.int .i64 0, .int .i64 0, .slice none 0 0]) (t := 68) ?hr ?_; (case hd => rfl); (case hg => rfl); (case hr => first | (go_simp; done) | (go_simp; rfl)); intro gb303 hg w30 hbox hb; have n0_ := mk_ (below_step (ub_ HB.out) hb); have n1_ := mk_ (hbox); have n2_ := mk_ ((by rw [hg]; exact (below_size (ub_ HB.out)) : w.heap.size ≤ gb303)); have n3_ := mk_ ((by rw [hg]; exact (below_size (ub_ HB.out)) : w.heap.size ≤ gb303)); clear HB; have HB := n0_; have BK303 := n1_; have GW303 := n2_; have GE303 := ge_ n3_.out; clear n0_ n1_ n2_ n3_; clear hb hbox hg; obtain ⟨i031, hi031, _, hsz31, _⟩ := info_parts info5; obtain ⟨A31, hcut31, hA31, hC31⟩ := print_drop_of (P := Try.prog) (Value.int .u8) 0 22 5 .i64 Try.underlying22 hi031 hsz31 A0 c0 l0 4 (by omega) (of_decide_eq_true (by first | (with_reducible assumption) | assumption)) HC0.out; have HR306 := mk_ (Kd.C_of_reads (h1 := fun _ => rfl) (hA31 _ (Kd.reads_of_C HR0.out))); have HC306 := mk_ hC31; clear hA31 hC31 hi031 hsz31))
 have n0_ := mk_ (blk_drew BK303.out)
 have n1_ := mk_ (below_drew1 HB.out)
 clear BK303
 clear HB
 have BK303 := n0_
 have HB := n1_
 clear n0_ n1_
 have p304 : 0 ≤ (0 : Int) := (by omega)
 have q304 : 0 < (l0.length : Int) := of_decide_eq_true (by first | (with_reducible assumption) | assumption)
 obtain ⟨ad304, e304, hx304_0⟩ := Kd.at_int HR0.out 0 p304 q304
 have hw304_0 := hx304_0
 (try rw [show ((0 : Int)).toNat = 0 from rfl] at hw304_0)
 (try rw [show 0 * 1 = 0 from rfl] at hw304_0)
 (try rw [Addr.add_zero'] at hw304_0)
 cases e304
 have qi304 : (0 < l0.length) = True := eq_true (by omega)
 (try rw [show ((0 : Int)).toNat = 0 from rfl] at hx304_0)
 (try rw [Addr.add_zero'] at hx304_0)
 replace hx304_0 := (HB.out.cell (lc_ w _ hx304_0)).trans hx304_0
 replace p304 := eq_true p304
 replace q304 := eq_true q304
 refine start_ (n := 12) (S := fun w' => w'.cell? ad304 = some (.int .u8 (rd l0 0))) (ds := []) #[F_, F_, F_, F_, F_, F_, F_, F_, F_, F_, F_, F_] (by kernel_rfl) rfl rfl (((HB.out.cell (lc_ w _ hw304_0)).trans hw304_0)) (fun hHeld => ?_); refine with_tabW impl_NoteFrom.tab3 impl_NoteFrom.bits3 (fun HT_ HW_ => ?_)
 generalize w30.drew = w32 at BK303 HB hx304_0 hHeld ⊢
 refine pure_ (i := 0) (N := some 9) (v := ?_) (a' := ?_) #[T_, F_, F_, F_, F_, F_, F_, F_, F_, F_, F_, F_] rfl rfl (any_of HT_.out (by kernel_rfl)) (fun _ _ _ h => h) (Or.inl ⟨by rfl, ?_⟩) ?_ ?_
 rotate_left
 ·intro w'
  go_simp
  with_reducible rfl
 rotate_left
 ·simp only [Act.put, la_, lz_, ls_, i64_w, i32_w]
  rfl
 refine pure_ (i := 1) (N := some 10) (v := ?_) (a' := ?_) #[T_, T_, F_, F_, F_, F_, F_, F_, F_, F_, F_, F_] rfl rfl (any_of HT_.out (by kernel_rfl)) (fun _ _ _ h => h) (Or.inl ⟨by rfl, ?_⟩) ?_ ?_
 rotate_left
 ·intro w'
  go_simp
  with_reducible rfl
 rotate_left
 ·simp only [Act.put, la_, lz_, ls_, i64_w, i32_w]
  rfl
 refine pure_ (i := 4) (N := some 13) (v := ?_) (a' := ?_) #[T_, T_, F_, F_, T_, F_, F_, F_, F_, F_, F_, F_] rfl rfl (any_of HT_.out (by kernel_rfl)) (fun _ _ _ h => h) (Or.inl ⟨by rfl, ?_⟩) ?_ ?_
 rotate_left
 ·intro w'
  go_simp
  with_reducible rfl
 rotate_left
 ·simp only [Act.put, la_, lz_, ls_, i64_w, i32_w]
  rfl
 refine pure_ (i := 6) (N := some 15) (v := ?_) (a' := ?_) #[T_, T_, F_, F_, T_, F_, T_, F_, F_, F_, F_, F_] rfl rfl (any_of HT_.out (by kernel_rfl)) (fun _ _ _ h => h) (Or.inl ⟨by rfl, ?_⟩) ?_ ?_
 rotate_left
 ·intro w'
  go_simp
  with_reducible rfl
 rotate_left
 ·simp only [Act.put, la_, lz_, ls_, i64_w, i32_w]
  rfl
 refine pure_ (i := 7) (N := some 16) (v := ?_) (a' := ?_) #[T_, T_, F_, F_, T_, F_, T_, T_, F_, F_, F_, F_] rfl rfl (any_of HT_.out (by kernel_rfl)) (fun _ _ _ h => h) (Or.inl ⟨by rfl, ?_⟩) ?_ ?_
 rotate_left
 ·intro w'
  go_simp
  with_reducible rfl
 rotate_left
 ·simp only [Act.put, la_, lz_, ls_, i64_w, i32_w]
  rfl
 refine take_ (i := 2) (N := some 11) (v := ?_) (a' := ?_) #[T_, T_, T_, F_, T_, F_, T_, T_, F_, F_, F_, F_] rfl rfl (take_ofW HT_.out HW_.out (by kernel_rfl)) (fun _ _ _ h => h) (Or.inl ⟨by rfl, ?_⟩) hHeld ?_ ?_
 rotate_left
 ·intro w' s0
  go_simp
  with_reducible rfl
 rotate_left
 ·simp only [Act.put, la_, lz_, ls_, i64_w, i32_w]
  rfl
 refine pure_ (i := 3) (N := some 12) (v := ?_) (a' := ?_) #[T_, T_, T_, T_, T_, F_, T_, T_, F_, F_, F_, F_] rfl rfl (any_of HT_.out (by kernel_rfl)) (fun _ _ _ h => h) (Or.inl ⟨by rfl, ?_⟩) ?_ ?_
 rotate_left
 ·intro w'
  go_simp
  with_reducible rfl
 rotate_left
 ·simp only [Act.put, la_, lz_, ls_, i64_w, i32_w]
  rfl
 refine join_ (σ := Value × Nat) 1 #[T_, T_, T_, T_, T_, T_, T_, T_, T_, T_, T_, F_] (fun s_ => [(14, .int .i64 t305), (17, s_.1), (4, .pointer (some ⟨s_.2, 0, none⟩)), (18, .agg #[.int .i64 (wrap64 (rd l0 0)), .int .i64 t305, s_.1])]) (fun s_ w' => (w'.cell? ad304 = some (.int .u8 (rd l0 0))) ∧ (Kd.R (Kd.int .u8) 5 w' w.heap.size (fun _ => True) s_.1 t307) ∧ (w'.heap[gb303]? = some (.cells #[.int .i64 0, .int .i64 0, .slice none 0 0] 68 (0, 0))) ∧ (w'.heap[s_.2]? = some (.cells #[.int .i64 0, .int .i64 0, .slice none 0 0] 68 (0, 0))) ∧ (w.heap.size ≤ s_.2) ∧ (w.heap.size ≤ s_.2) ∧ (gb303 ≠ s_.2) ∧ (s_.2 ≠ gb303) ∧ (Below w.heap.size w w')) ?_ ?_
 rotate_left
 ·intro hCont
  refine two_ (i := 5) (j := 10) (Ni := some 14) (Nj := some 4) #[T_, T_, T_, T_, T_, T_, T_, T_, F_, F_, F_, F_] #[T_, T_, T_, T_, T_, F_, T_, T_, F_, F_, T_, F_] rfl rfl rfl rfl (two_of HT_.out (by kernel_rfl)) (by decide) (by decide) (fun K hK => ?_) (fun K hK => ?_)
  ·skip
   refine goes_ Try.func77 (by kernel_rfl) rfl #[.slice (some ad304) l0.length c0, .int .i64 1, .int .i64 2] (by rfl) rfl rfl (by (try simp only [lm_, lo_, ln_]); first | done | rfl | (simp only [List.length_drop, List.length_take]; rfl)) ?_
   with_reducible refine (impl_NumberAt.calls k _ _ l0 1 2 t305 _ ?side1 ?side2 A6.out).mono ?_
   (case side1 => repeat (first | exact (Kd.C_below HR0.out HB.out) | (with_reducible refine Kd.C_alloc ?_ _) | (with_reducible refine Kd.C_drewN ?_ _) | (with_reducible refine Kd.C_drew ?_)))
   (case side2 => exact HC0.out)
   rintro e w' ⟨rfl, ⟨nd, rfl⟩⟩
   refine ⟨_, rfl, ?_⟩
   refine hK.out _ _ (((HB.out.cell (lc_ w _ hw304_0)).trans hw304_0)) (fun hHeld => ?_)
   clear hK K
   refine norm_ (a' := ?_) ?_ ?_
   rotate_left
   ·show Act.put _ (some 14) _ = _
    simp only [Act.put, la_, lz_, ls_, i64_w, i32_w]
    rfl
   refine two_ (i := 8) (j := 10) (Ni := some 17) (Nj := some 4) #[T_, T_, T_, T_, T_, T_, T_, T_, T_, F_, F_, F_] #[T_, T_, T_, T_, T_, T_, T_, T_, F_, F_, T_, F_] rfl rfl rfl rfl (two_of HT_.out (by kernel_rfl)) (by decide) (by decide) (fun K hK => ?_) (fun K hK => ?_)
   ·skip
    refine goes_ Try.func78 (by kernel_rfl) rfl #[.slice A31 (l0.drop 4).length (c0 - 4)] (by rfl) rfl rfl (by (try simp only [List.map_toArray, List.map_cons, List.map_nil]); first | done | (rw [show (l0.drop 4).length = (l0.length - 4) from List.length_drop] <;> rfl) | rfl | (simp only [List.length_drop, List.length_take]; rfl)) ?_
    with_reducible refine (impl_clone_byte.calls _ _ (l0.drop 4) t307 _ ?side1 ?side2 A8.out).mono ?_
    (case side1 => repeat (first | exact (Kd.C_below HR306.out (us_ HB.out)) | (with_reducible refine Kd.C_alloc ?_ _) | (with_reducible refine Kd.C_drewN ?_ _) | (with_reducible refine Kd.C_drew ?_)))
    (case side2 => exact HC306.out)
    rintro e w33 ⟨v308, rfl, ho0, hb⟩
    refine ⟨_, rfl, ?_⟩
    have n0_ := mk_ (Kd.R_lower ho0 (below_size (us_ HB.out)))
    have n1_ := mk_ (blk_below (u_ BK303.out) hb)
    have n2_ := mk_ (below_step (us_ HB.out) hb)
    clear BK303
    clear HB
    have HO309 := n0_
    have BK303 := n1_
    have HB := n2_
    clear n0_ n1_ n2_
    (try clear hb)
    (try clear hb2)
    (try clear hk)
    (try clear hi)
    (try clear ho0)
    obtain ⟨Ao34, co34, eo34⟩ := Kd.R_slice HO309.out
    (first | subst eo34 | (injection eo34 with f1_ f2_ f3_; have f4_ := f1_.symm; have f5_ := f3_.symm; clear f1_ f2_ f3_; subst f4_; subst f5_))
    refine hK.out _ _ (((HB.out.cell (lc_ w _ hw304_0)).trans hw304_0)) (fun hHeld => ?_)
    clear hK K
    refine norm_ (a' := ?_) ?_ ?_
    rotate_left
    ·show Act.put _ (some 17) _ = _
     simp only [Act.put, la_, lz_, ls_, i64_w, i32_w]
     rfl
    refine pure_ (i := 9) (N := some 18) (v := ?_) (a' := ?_) #[T_, T_, T_, T_, T_, T_, T_, T_, T_, T_, F_, F_] rfl rfl (any_of HT_.out (by kernel_rfl)) (fun _ _ _ h => h) (Or.inl ⟨by rfl, ?_⟩) ?_ ?_
    rotate_left
    ·intro w'
     go_simp
     with_reducible rfl
    rotate_left
    ·simp only [Act.put, la_, lz_, ls_, i64_w, i32_w]
     rfl
    refine one_ (i := 10) (N := some 4) #[T_, T_, T_, T_, T_, T_, T_, T_, T_, T_, T_, F_] rfl rfl (one_of HT_.out (by kernel_rfl)) (by decide) (fun K hK => ?_)
    refine box_step ?hg (N := 4) ?hd (cs := #[.int .i64 0, .int .i64 0, .slice none 0 0]) (t := 68) ?hr ?_; (case hd => rfl); (case hg => rfl); (case hr => first | (go_simp; done) | (go_simp; rfl))
    intro gb310 hg w35 hbox hb
    have n0_ := mk_ (Kd.R_below (Kd.ur_ HO309.out) hb)
    have n1_ := mk_ (blk_below (u_ BK303.out) hb)
    have n2_ := mk_ (below_step (us_ HB.out) hb)
    have n3_ := mk_ (hbox)
    have n4_ := mk_ ((by rw [hg]; exact (below_size (us_ HB.out)) : w.heap.size ≤ gb310))
    have n5_ := mk_ ((by rw [hg]; exact (below_size (us_ HB.out)) : w.heap.size ≤ gb310))
    have n6_ := mk_ ((by rw [hg]; exact Nat.ne_of_lt (blk_lt (u_ BK303.out)) : gb303 ≠ gb310))
    have n7_ := mk_ ((by rw [hg]; exact Nat.ne_of_gt (blk_lt (u_ BK303.out)) : gb310 ≠ gb303))
    clear HO309
    clear BK303
    clear HB
    have HO309 := n0_
    have BK303 := n1_
    have HB := n2_
    have BK310 := n3_
    have GW310 := n4_
    have GE310 := ge_ n5_.out
    have NB303_310 := nq_ n6_.out
    have NB310_303 := nq_ n7_.out
    clear n0_ n1_ n2_ n3_ n4_ n5_ n6_ n7_
    clear hb hbox hg
    refine hK.out _ _ (((HB.out.cell (lc_ w _ hw304_0)).trans hw304_0)) (fun hHeld => ?_)
    clear hK K
    refine norm_ (a' := ?_) ?_ ?_
    rotate_left
    ·show Act.put _ (some 4) _ = _
     simp only [Act.put, la_, lz_, ls_, i64_w, i32_w]
     rfl
    exact norm_ (by simp only [putAll, Act.put, la_, lz_, ls_]) (hCont (.slice Ao34 t307.length co34, gb310) _ ⟨hHeld, (Kd.ur_ HO309.out), (u_ BK303.out), (u_ BK310.out), GW310.out, GE310.out, NB303_310.out, NB310_303.out, (us_ HB.out)⟩)
   skip
   refine box_step ?hg (N := 4) ?hd (cs := #[.int .i64 0, .int .i64 0, .slice none 0 0]) (t := 68) ?hr ?_; (case hd => rfl); (case hg => rfl); (case hr => first | (go_simp; done) | (go_simp; rfl))
   intro gb310 hg w33 hbox hb
   have n0_ := mk_ (blk_below (u_ BK303.out) hb)
   have n1_ := mk_ (below_step (us_ HB.out) hb)
   have n2_ := mk_ (hbox)
   have n3_ := mk_ ((by rw [hg]; exact (below_size (us_ HB.out)) : w.heap.size ≤ gb310))
   have n4_ := mk_ ((by rw [hg]; exact (below_size (us_ HB.out)) : w.heap.size ≤ gb310))
   have n5_ := mk_ ((by rw [hg]; exact Nat.ne_of_lt (blk_lt (u_ BK303.out)) : gb303 ≠ gb310))
   have n6_ := mk_ ((by rw [hg]; exact Nat.ne_of_gt (blk_lt (u_ BK303.out)) : gb310 ≠ gb303))
   clear BK303
   clear HB
   have BK303 := n0_
   have HB := n1_
   have BK310 := n2_
   have GW310 := n3_
   have GE310 := ge_ n4_.out
   have NB303_310 := nq_ n5_.out
   have NB310_303 := nq_ n6_.out
   clear n0_ n1_ n2_ n3_ n4_ n5_ n6_
   clear hb hbox hg
   refine hK.out _ _ (((HB.out.cell (lc_ w _ hw304_0)).trans hw304_0)) (fun hHeld => ?_)
   clear hK K
   refine norm_ (a' := ?_) ?_ ?_
   rotate_left
   ·show Act.put _ (some 4) _ = _
    simp only [Act.put, la_, lz_, ls_, i64_w, i32_w]
    rfl
   refine one_ (i := 8) (N := some 17) #[T_, T_, T_, T_, T_, T_, T_, T_, T_, F_, T_, F_] rfl rfl (one_of HT_.out (by kernel_rfl)) (by decide) (fun K hK => ?_)
   refine goes_ Try.func78 (by kernel_rfl) rfl #[.slice A31 (l0.drop 4).length (c0 - 4)] (by rfl) rfl rfl (by (try simp only [List.map_toArray, List.map_cons, List.map_nil]); first | done | (rw [show (l0.drop 4).length = (l0.length - 4) from List.length_drop] <;> rfl) | rfl | (simp only [List.length_drop, List.length_take]; rfl)) ?_
   with_reducible refine (impl_clone_byte.calls _ _ (l0.drop 4) t307 _ ?side1 ?side2 A8.out).mono ?_
   (case side1 => repeat (first | exact (Kd.C_below HR306.out HB.out) | (with_reducible refine Kd.C_alloc ?_ _) | (with_reducible refine Kd.C_drewN ?_ _) | (with_reducible refine Kd.C_drew ?_)))
   (case side2 => exact HC306.out)
   rintro e w34 ⟨v308, rfl, ho0, hb⟩
   refine ⟨_, rfl, ?_⟩
   have n0_ := mk_ (Kd.R_lower ho0 (below_size (us_ HB.out)))
   have n1_ := mk_ (blk_below (u_ BK303.out) hb)
   have n2_ := mk_ (blk_below (u_ BK310.out) hb)
   have n3_ := mk_ (below_step (us_ HB.out) hb)
   clear BK303
   clear BK310
   clear HB
   have HO309 := n0_
   have BK303 := n1_
   have BK310 := n2_
   have HB := n3_
   clear n0_ n1_ n2_ n3_
   (try clear hb)
   (try clear hb2)
   (try clear hk)
   (try clear hi)
   (try clear ho0)
   obtain ⟨Ao35, co35, eo35⟩ := Kd.R_slice HO309.out
   (first | subst eo35 | (injection eo35 with f1_ f2_ f3_; have f4_ := f1_.symm; have f5_ := f3_.symm; clear f1_ f2_ f3_; subst f4_; subst f5_))
   refine hK.out _ _ (((HB.out.cell (lc_ w _ hw304_0)).trans hw304_0)) (fun hHeld => ?_)
   clear hK K
   refine norm_ (a' := ?_) ?_ ?_
   rotate_left
   ·show Act.put _ (some 17) _ = _
    simp only [Act.put, la_, lz_, ls_, i64_w, i32_w]
    rfl
   refine pure_ (i := 9) (N := some 18) (v := ?_) (a' := ?_) #[T_, T_, T_, T_, T_, T_, T_, T_, T_, T_, T_, F_] rfl rfl (any_of HT_.out (by kernel_rfl)) (fun _ _ _ h => h) (Or.inl ⟨by rfl, ?_⟩) ?_ ?_
   rotate_left
   ·intro w'
    go_simp
    with_reducible rfl
   rotate_left
   ·simp only [Act.put, la_, lz_, ls_, i64_w, i32_w]
    rfl
   exact norm_ (by simp only [putAll, Act.put, la_, lz_, ls_]) (hCont (.slice Ao35 t307.length co35, gb310) _ ⟨hHeld, (Kd.ur_ HO309.out), (u_ BK303.out), (u_ BK310.out), GW310.out, GE310.out, NB303_310.out, NB310_303.out, (us_ HB.out)⟩)
  skip
  refine box_step ?hg (N := 4) ?hd (cs := #[.int .i64 0, .int .i64 0, .slice none 0 0]) (t := 68) ?hr ?_; (case hd => rfl); (case hg => rfl); (case hr => first | (go_simp; done) | (go_simp; rfl))
  intro gb310 hg w33 hbox hb
  have n0_ := mk_ (blk_below (u_ BK303.out) hb)
  have n1_ := mk_ (below_step (us_ HB.out) hb)
  have n2_ := mk_ (hbox)
  have n3_ := mk_ ((by rw [hg]; exact (below_size (us_ HB.out)) : w.heap.size ≤ gb310))
  have n4_ := mk_ ((by rw [hg]; exact (below_size (us_ HB.out)) : w.heap.size ≤ gb310))
  have n5_ := mk_ ((by rw [hg]; exact Nat.ne_of_lt (blk_lt (u_ BK303.out)) : gb303 ≠ gb310))
  have n6_ := mk_ ((by rw [hg]; exact Nat.ne_of_gt (blk_lt (u_ BK303.out)) : gb310 ≠ gb303))
  clear BK303
  clear HB
  have BK303 := n0_
  have HB := n1_
  have BK310 := n2_
  have GW310 := n3_
  have GE310 := ge_ n4_.out
  have NB303_310 := nq_ n5_.out
  have NB310_303 := nq_ n6_.out
  clear n0_ n1_ n2_ n3_ n4_ n5_ n6_
  clear hb hbox hg
  refine hK.out _ _ (((HB.out.cell (lc_ w _ hw304_0)).trans hw304_0)) (fun hHeld => ?_)
  clear hK K
  refine norm_ (a' := ?_) ?_ ?_
  rotate_left
  ·show Act.put _ (some 4) _ = _
   simp only [Act.put, la_, lz_, ls_, i64_w, i32_w]
   rfl
  refine one_ (i := 5) (N := some 14) #[T_, T_, T_, T_, T_, T_, T_, T_, F_, F_, T_, F_] rfl rfl (one_of HT_.out (by kernel_rfl)) (by decide) (fun K hK => ?_)
  refine goes_ Try.func77 (by kernel_rfl) rfl #[.slice (some ad304) l0.length c0, .int .i64 1, .int .i64 2] (by rfl) rfl rfl (by (try simp only [lm_, lo_, ln_]); first | done | rfl | (simp only [List.length_drop, List.length_take]; rfl)) ?_
  with_reducible refine (impl_NumberAt.calls k _ _ l0 1 2 t305 _ ?side1 ?side2 A6.out).mono ?_
  (case side1 => repeat (first | exact (Kd.C_below HR0.out HB.out) | (with_reducible refine Kd.C_alloc ?_ _) | (with_reducible refine Kd.C_drewN ?_ _) | (with_reducible refine Kd.C_drew ?_)))
  (case side2 => exact HC0.out)
  rintro e w' ⟨rfl, ⟨nd, rfl⟩⟩
  refine ⟨_, rfl, ?_⟩
  refine hK.out _ _ (((HB.out.cell (lc_ w _ hw304_0)).trans hw304_0)) (fun hHeld => ?_)
  clear hK K
  refine norm_ (a' := ?_) ?_ ?_
  rotate_left
  ·show Act.put _ (some 14) _ = _
   simp only [Act.put, la_, lz_, ls_, i64_w, i32_w]
   rfl
  refine one_ (i := 8) (N := some 17) #[T_, T_, T_, T_, T_, T_, T_, T_, T_, F_, T_, F_] rfl rfl (one_of HT_.out (by kernel_rfl)) (by decide) (fun K hK => ?_)
  refine goes_ Try.func78 (by kernel_rfl) rfl #[.slice A31 (l0.drop 4).length (c0 - 4)] (by rfl) rfl rfl (by (try simp only [List.map_toArray, List.map_cons, List.map_nil]); first | done | (rw [show (l0.drop 4).length = (l0.length - 4) from List.length_drop] <;> rfl) | rfl | (simp only [List.length_drop, List.length_take]; rfl)) ?_
  with_reducible refine (impl_clone_byte.calls _ _ (l0.drop 4) t307 _ ?side1 ?side2 A8.out).mono ?_
  (case side1 => repeat (first | exact (Kd.C_below HR306.out (us_ HB.out)) | (with_reducible refine Kd.C_alloc ?_ _) | (with_reducible refine Kd.C_drewN ?_ _) | (with_reducible refine Kd.C_drew ?_)))
  (case side2 => exact HC306.out)
  rintro e w34 ⟨v308, rfl, ho0, hb⟩
  refine ⟨_, rfl, ?_⟩
  have n0_ := mk_ (Kd.R_lower ho0 (below_size (us_ HB.out)))
  have n1_ := mk_ (blk_below (u_ BK303.out) hb)
  have n2_ := mk_ (blk_below (u_ BK310.out) hb)
  have n3_ := mk_ (below_step (us_ HB.out) hb)
  clear BK303
  clear BK310
  clear HB
  have HO309 := n0_
  have BK303 := n1_
  have BK310 := n2_
  have HB := n3_
  clear n0_ n1_ n2_ n3_
  (try clear hb)
  (try clear hb2)
  (try clear hk)
  (try clear hi)
  (try clear ho0)
  obtain ⟨Ao35, co35, eo35⟩ := Kd.R_slice HO309.out
  (first | subst eo35 | (injection eo35 with f1_ f2_ f3_; have f4_ := f1_.symm; have f5_ := f3_.symm; clear f1_ f2_ f3_; subst f4_; subst f5_))
  refine hK.out _ _ (((HB.out.cell (lc_ w _ hw304_0)).trans hw304_0)) (fun hHeld => ?_)
  clear hK K
  refine norm_ (a' := ?_) ?_ ?_
  rotate_left
  ·show Act.put _ (some 17) _ = _
   simp only [Act.put, la_, lz_, ls_, i64_w, i32_w]
   rfl
  refine pure_ (i := 9) (N := some 18) (v := ?_) (a' := ?_) #[T_, T_, T_, T_, T_, T_, T_, T_, T_, T_, T_, F_] rfl rfl (any_of HT_.out (by kernel_rfl)) (fun _ _ _ h => h) (Or.inl ⟨by rfl, ?_⟩) ?_ ?_
  rotate_left
  ·intro w'
   go_simp
   with_reducible rfl
  rotate_left
  ·simp only [Act.put, la_, lz_, ls_, i64_w, i32_w]
   rfl
  exact norm_ (by simp only [putAll, Act.put, la_, lz_, ls_]) (hCont (.slice Ao35 t307.length co35, gb310) _ ⟨hHeld, (Kd.ur_ HO309.out), (u_ BK303.out), (u_ BK310.out), GW310.out, GE310.out, NB303_310.out, NB310_303.out, (us_ HB.out)⟩)
 rintro ⟨v308, gb310⟩ w36 ⟨hS_, h0_, h1_, h2_, h3_, h4_, h5_, h6_, h7_⟩
 have n0_ : Aside0 (Kd.R (Kd.int .u8) 5 w36 w.heap.size (fun _ => True) v308 t307) := ⟨h0_⟩
 have n1_ : Aside0 (w36.heap[gb303]? = some (.cells #[.int .i64 0, .int .i64 0, .slice none 0 0] 68 (0, 0))) := ⟨h1_⟩
 have n2_ : Aside0 (w36.heap[gb310]? = some (.cells #[.int .i64 0, .int .i64 0, .slice none 0 0] 68 (0, 0))) := ⟨h2_⟩
 have n3_ : Aside0 (w.heap.size ≤ gb310) := ⟨h3_⟩
 have n4_ : Aside0 (w.heap.size ≤ gb310) := ⟨h4_⟩
 have n5_ : Aside0 (gb303 ≠ gb310) := ⟨h5_⟩
 have n6_ : Aside0 (gb310 ≠ gb303) := ⟨h6_⟩
 have n7_ : Aside0 (Below w.heap.size w w36) := ⟨h7_⟩
 clear BK303
 clear HB
 clear h0_ h1_ h2_ h3_ h4_ h5_ h6_ h7_
 have HO309 := n0_
 have BK303 := n1_
 have BK310 := n2_
 have GW310 := n3_
 have GE310 := ge_ n4_.out
 have NB303_310 := nq_ n5_.out
 have NB310_303 := nq_ n6_.out
 have HB := n7_
 clear n0_ n1_ n2_ n3_ n4_ n5_ n6_ n7_
 have hHeld : w36.cell? ad304 = some (.int .u8 (rd l0 0)) := hS_
 obtain ⟨Ao37, co37, eo37⟩ := Kd.R_slice HO309.out
 (first | subst eo37 | (injection eo37 with f1_ f2_ f3_; have f4_ := f1_.symm; have f5_ := f3_.symm; clear f1_ f2_ f3_; subst f4_; subst f5_))
 refine norm_ (a' := ?_) ?_ ?_
 rotate_left
 ·simp only [putAll, Act.put, la_, lz_, ls_]
  rfl
 refine one_ (i := 11) (N := none) #[T_, T_, T_, T_, T_, T_, T_, T_, T_, T_, T_, T_] rfl rfl (one_of HT_.out (by kernel_rfl)) (by decide) (fun K hK => ?_)
 have hs38 : w36.cell? ⟨gb310, 0, none⟩ = some (.int .i64 0) := (blk_cell BK310.out 0).trans rfl
 have hfs38 := blk_frozen BK310.out 0
 have hns38_0 := NB303_310.out
 have hms38_0 := NB310_303.out
 have hs39 : w36.cell? ⟨gb310, 1, none⟩ = some (.int .i64 0) := (blk_cell BK310.out 1).trans rfl
 have hfs39 := blk_frozen BK310.out 1
 have hns39_0 := NB303_310.out
 have hms39_0 := NB310_303.out
 have hs40 : w36.cell? ⟨gb310, 2, none⟩ = some (.slice none 0 0) := (blk_cell BK310.out 2).trans rfl
 have hfs40 := blk_frozen BK310.out 2
 have hns40_0 := NB303_310.out
 have hms40_0 := NB310_303.out
 refine skip_ (w1 := ?_) (by rfl) rfl ?_ ?_
 rotate_left
 ·go_simp
  rfl
 refine hK.out _ _ (((cell_far (p := ⟨gb310, _, none⟩) (by first | exact (ne1_ (by have := lc_ _ _ hw304_0; first | rwa [add_block] at this | exact this) GW310.out) | (rw [add_block]; exact (ne1_ (by have := lc_ _ _ hw304_0; first | rwa [add_block] at this | exact this) GW310.out)) | (show (Addr.add _ _).block ≠ _; rw [add_block]; exact (ne1_ (by have := lc_ _ _ hw304_0; first | rwa [add_block] at this | exact this) GW310.out)) | (dsimp only; exact (ne1_ (by have := lc_ _ _ hw304_0; first | rwa [add_block] at this | exact this) GW310.out))) _).trans (((cell_far (p := ⟨gb310, _, none⟩) (by first | exact (ne1_ (by have := lc_ _ _ hw304_0; first | rwa [add_block] at this | exact this) GW310.out) | (rw [add_block]; exact (ne1_ (by have := lc_ _ _ hw304_0; first | rwa [add_block] at this | exact this) GW310.out)) | (show (Addr.add _ _).block ≠ _; rw [add_block]; exact (ne1_ (by have := lc_ _ _ hw304_0; first | rwa [add_block] at this | exact this) GW310.out)) | (dsimp only; exact (ne1_ (by have := lc_ _ _ hw304_0; first | rwa [add_block] at this | exact this) GW310.out))) _).trans (((cell_far (p := ⟨gb310, _, none⟩) (by first | exact (ne1_ (by have := lc_ _ _ hw304_0; first | rwa [add_block] at this | exact this) GW310.out) | (rw [add_block]; exact (ne1_ (by have := lc_ _ _ hw304_0; first | rwa [add_block] at this | exact this) GW310.out)) | (show (Addr.add _ _).block ≠ _; rw [add_block]; exact (ne1_ (by have := lc_ _ _ hw304_0; first | rwa [add_block] at this | exact this) GW310.out)) | (dsimp only; exact (ne1_ (by have := lc_ _ _ hw304_0; first | rwa [add_block] at this | exact this) GW310.out))) _).trans (hHeld))))))) (fun hHeld => ?_)
 clear hK K
 refine done_ (done_of HT_.out (by kernel_rfl)) ?_
 have n0_ : Aside0 (Kd.R (Kd.int .u8) 5 (((w36.setCell ⟨gb310, 0, none⟩ (.int .i64 (wrap64 (rd l0 0)))).setCell ⟨gb310, 1, none⟩ (.int .i64 t305)).setCell ⟨gb310, 2, none⟩ (.slice Ao37 t307.length co37)) w.heap.size (fun _ => True) (.slice Ao37 t307.length co37) t307) := ⟨by (with_reducible repeat (first | apply Kd.R_alloc | apply Kd.R_drewN | apply Kd.R_drew)); exact Kd.R_mono (Kd.R_far (p := ⟨gb310, 2, none⟩) (Kd.R_far (p := ⟨gb310, 1, none⟩) (Kd.R_far (p := ⟨gb310, 0, none⟩) (Kd.R_types HO309.out BK310.out (by decide)) (fun _ hk => hk.2) (.int .i64 (wrap64 (rd l0 0)))) (fun _ hk => hk.2) (.int .i64 t305)) (fun _ hk => hk.2) (.slice Ao37 t307.length co37)) (fun _ hk => trivial)⟩
 have n1_ : Aside0 ((((w36.setCell ⟨gb310, 0, none⟩ (.int .i64 (wrap64 (rd l0 0)))).setCell ⟨gb310, 1, none⟩ (.int .i64 t305)).setCell ⟨gb310, 2, none⟩ (.slice Ao37 t307.length co37)).heap[gb303]? = some (.cells #[.int .i64 0, .int .i64 0, .slice none 0 0] 68 (0, 0))) := ⟨uf_ BK303.out⟩
 have n2_ : Aside0 ((((w36.setCell ⟨gb310, 0, none⟩ (.int .i64 (wrap64 (rd l0 0)))).setCell ⟨gb310, 1, none⟩ (.int .i64 t305)).setCell ⟨gb310, 2, none⟩ (.slice Ao37 t307.length co37)).heap[gb310]? = some (.cells #[.int .i64 (wrap64 (rd l0 0)), .int .i64 t305, .slice Ao37 t307.length co37] 68 (0, 0))) := ⟨by (with_reducible repeat (first | refine bn_ ?_ _ | refine bw_ ?_ | refine ba_ ?_ _)); refine blk_put (cs := #[.int .i64 (wrap64 (rd l0 0)), .int .i64 t305, .slice none 0 0]) ?_ 2 _ rfl; (with_reducible repeat (first | refine bn_ ?_ _ | refine bw_ ?_ | refine ba_ ?_ _)); refine blk_put (cs := #[.int .i64 (wrap64 (rd l0 0)), .int .i64 0, .slice none 0 0]) ?_ 1 _ rfl; (with_reducible repeat (first | refine bn_ ?_ _ | refine bw_ ?_ | refine ba_ ?_ _)); refine blk_put (cs := #[.int .i64 0, .int .i64 0, .slice none 0 0]) ?_ 0 _ rfl; (with_reducible repeat (first | refine bn_ ?_ _ | refine bw_ ?_ | refine ba_ ?_ _)); exact BK310.out⟩
 have n3_ : Aside0 (Below w.heap.size w (((w36.setCell ⟨gb310, 0, none⟩ (.int .i64 (wrap64 (rd l0 0)))).setCell ⟨gb310, 1, none⟩ (.int .i64 t305)).setCell ⟨gb310, 2, none⟩ (.slice Ao37 t307.length co37))) := ⟨us_ HB.out⟩
 (try clear HO309)
 (try clear BK303)
 (try clear BK310)
 (try clear HB)
 generalize (((w36.setCell ⟨gb310, 0, none⟩ (.int .i64 (wrap64 (rd l0 0)))).setCell ⟨gb310, 1, none⟩ (.int .i64 t305)).setCell ⟨gb310, 2, none⟩ (.slice Ao37 t307.length co37)) = w41 at n0_ n1_ n2_ n3_ ⊢
 have HO309 := n0_
 have BK303 := n1_
 have BK310 := n2_
 have HB := n3_
 clear n0_ n1_ n2_ n3_
 have hnb42 := NB310_303.out
 have hnc42 := NB303_310.out
 obtain ⟨hcz43_0, hcz43_1, hcz43_2, hfz43_0, hfz43_1, hfz43_2⟩ := cells3_ BK310.out
 try go_wp2_with (first | ((with_reducible refine gate_callee (f := 80) rfl ?_); refine goesL_ (some 20) rfl rfl Try.func80 (by kernel_rfl) rfl #[.agg #[.int .i64 (wrap64 (rd l0 0)), .int .i64 t305, .slice Ao37 t307.length co37]] rfl (by (try simp only [lm_, lo_, ln_]); first | done | rfl | (simp only [List.length_drop, List.length_take]; rfl)) ?_; (with_reducible refine (impl_NoteBytes.calls k (wrap64 (rd l0 0)) t305 (fun k_ => some k_ = (.slice Ao37 t307.length co37 : Value).ownBlock) _ _ t307 t311 _ ?side1 A9.out).mono ?_); (case side1 => exact Kd.R_V (Kd.R_tight rfl (Kd.R_types (Kd.R_types (HO309.out) BK303.out (by decide)) BK310.out (by decide)))); rintro e w44 ⟨v312, rfl, ho0, hb⟩; refine ⟨_, rfl, ?_⟩; have n0_ := mk_ (Kd.R_elder' (Kd.ur_ HO309.out) (Kd.R_base ho0) hb); have n1_ := mk_ (Kd.R_lower (Kd.R_new' (Kd.R_mono (ok' := fun k_ => True) ho0 (fun _ hk_ => trivial)) (Kd.R_lt (Kd.ur_ HO309.out))) (below_size (us_ HB.out))); have n2_ := mk_ (blk_below (u_ BK303.out) hb); have n3_ := mk_ (blk_below (u_ BK310.out) hb); have n4_ := mk_ (below_step (us_ HB.out) hb); clear HO309; clear BK303; clear BK310; clear HB; have HO309 := n0_; have HO313 := n1_; have BK303 := n2_; have BK310 := n3_; have HB := n4_; clear n0_ n1_ n2_ n3_ n4_; (try clear hb); (try clear hb2); (try clear hk); (try clear hi); (try clear ho0); obtain ⟨Ao45, co45, eo45⟩ := Kd.R_slice HO313.out; subst eo45) | ((with_reducible refine gate_callee (f := 79) rfl ?_); refine goesL_ (some 22) rfl rfl Try.func79 (by kernel_rfl) rfl #[.slice Ao45 t311.length co45, .slice (some ad304) l0.length c0] rfl (by (try simp only [lm_, lo_, ln_]); first | done | rfl | (simp only [List.length_drop, List.length_take]; rfl)) ?_; (with_reducible refine (slices_Equal_byte_byte.calls k _ _ t311 _ _ l0 false _ ?side1 ?side2 ?side3 ?side4 A10.out).mono ?_); (case side1 => repeat (first | exact (Kd.R_reads' HO313.out).2.2 | (with_reducible refine Kd.C_alloc ?_ _) | (with_reducible refine Kd.C_drewN ?_ _) | (with_reducible refine Kd.C_drew ?_))); (case side2 => exact (Kd.R_reads' HO313.out).2.1); (case side3 => repeat (first | exact (Kd.C_below HR0.out HB.out) | (with_reducible refine Kd.C_alloc ?_ _) | (with_reducible refine Kd.C_drewN ?_ _) | (with_reducible refine Kd.C_drew ?_))); (case side4 => exact HC0.out); rintro e w' ⟨rfl, ⟨nd, rfl⟩⟩; refine ⟨_, rfl, ?_⟩; (try simp only [World.drewN_drewN]); (try (rw [drewN_self w44]; generalize hq_ : World.drewN w44 _ = w44; have n0_ : Aside0 (Kd.R (Kd.int .u8) 5 w44 w.heap.size (fun k_ => some k_ ≠ (.slice Ao45 t311.length co45 : Value).ownBlock) (.slice Ao37 t307.length co37) t307) := ⟨by rw [← hq_]; exact (by (with_reducible repeat (first | apply Kd.R_alloc | apply Kd.R_drewN | apply Kd.R_drew)); exact Kd.R_mono HO309.out (fun _ hk => hk.2))⟩; have n1_ : Aside0 (Kd.R (Kd.int .u8) 5 w44 w.heap.size (fun k_ => some k_ ≠ (.slice Ao37 t307.length co37 : Value).ownBlock) (.slice Ao45 t311.length co45) t311) := ⟨by rw [← hq_]; exact (by (with_reducible repeat (first | apply Kd.R_alloc | apply Kd.R_drewN | apply Kd.R_drew)); exact Kd.R_mono HO313.out (fun _ hk => hk.2))⟩; have n2_ : Aside0 (w44.heap[gb303]? = some (.cells #[.int .i64 0, .int .i64 0, .slice none 0 0] 68 (0, 0))) := ⟨by rw [← hq_]; exact (u_ BK303.out)⟩; have n3_ : Aside0 (w44.heap[gb310]? = some (.cells #[.int .i64 (wrap64 (rd l0 0)), .int .i64 t305, .slice Ao37 t307.length co37] 68 (0, 0))) := ⟨by rw [← hq_]; exact (u_ BK310.out)⟩; have n4_ : Aside0 (Below w.heap.size w w44) := ⟨by rw [← hq_]; exact (us_ HB.out)⟩; clear HO309 HO313 BK303 BK310 HB hq_; have HO309 := n0_; have HO313 := n1_; have BK303 := n2_; have BK310 := n3_; have HB := n4_; clear n0_ n1_ n2_ n3_ n4_)); obtain ⟨hcz46_0, hcz46_1, hcz46_2, hfz46_0, hfz46_1, hfz46_2⟩ := cells3_ BK303.out))
 refine bodyPost_ret (results_ct rfl _ _ gb303 68 #[.int .i64 0, .int .i64 0, .slice none 0 0] (0, 0) _ rfl (by (with_reducible repeat (first | refine bn_ ?_ _ | refine bw_ ?_ | refine ba_ ?_ _)); refine blk_put (cs := #[.int .i64 0, .int .i64 0, .slice none 0 0]) ?_ 2 _ rfl; (with_reducible repeat (first | refine bn_ ?_ _ | refine bw_ ?_ | refine ba_ ?_ _)); refine blk_put (cs := #[.int .i64 0, .int .i64 0, .slice none 0 0]) ?_ 1 _ rfl; (with_reducible repeat (first | refine bn_ ?_ _ | refine bw_ ?_ | refine ba_ ?_ _)); refine blk_put (cs := #[.int .i64 0, .int .i64 0, .slice none 0 0]) ?_ 0 _ rfl; (with_reducible repeat (first | refine bn_ ?_ _ | refine bw_ ?_ | refine ba_ ?_ _)); exact BK303.out) Try.underlying68 rfl (by kernel_rfl)) rfl ?_
 exact ⟨_, by first | rfl | (simp [errW_none, errW_some] <;> rfl) | (simp [*, errW_none, errW_some] <;> rfl), by first | exact Kd.R_nil _ _ _ _ _ | exact Kd.N_nil _ _ _ _ _ | exact Kd.V_nil _ _ _ _ _ | exact Kd.Q_nil _ _ _ _ _ | exact Kd.S_nil _ _ _ _ _, us_ HB.out⟩

end Go.Proofs.Ytfcocnhkimbpbab.MFnNoteFault
