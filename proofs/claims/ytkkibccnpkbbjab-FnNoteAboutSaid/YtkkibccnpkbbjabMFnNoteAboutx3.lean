/- Functions that the law FnNoteAbout reaches, each with the proof that the machine's call comes to just its answer; no conditions but those that each theorem states. Printed by a program of this session over the kit's print. -/
import Derived.Test.YtkkibccnpkbbjabMFnNoteAboutx0
import Derived.Test.YtkkibccnpkbbjabMFnNoteAboutx1
import Derived.Test.YtkkibccnpkbbjabMFnNoteAboutx2
namespace Go.Proofs.Ytkkibccnpkbbjab.MFnNoteAbout
open Go.RowKit Go.Proofs.YtkkibccnpkbbjabV.PrintWords Go.Proofs.YtkkibccnpkbbjabV.PrintLast Go.Proofs.YtkkibccnpkbbjabV.PrintMore
attribute [local go_sem] max2_int min2_int max_two min_two max_three min_three max_four min_four   -- for this text's walks alone
set_option linter.unusedVariables false
set_option linter.unusedSimpArgs false

/-! ### impl_NoteFrom: function 19 -/
def impl_NoteFrom.f (k : Nat) (l0 : List Int) : Option (Int × Int × List Int × Bool) := if (l0.length : Int) < 4 then (some (0, 0, ([] : List Int), false)) else (if 0 < (l0.length : Int) then ((impl_NumberAt.f k l0 1 2).bind fun t144 => (if 4 ≤ (l0.length : Int) then ((impl_clone_byte.f (l0.drop 4)).bind fun t146 => ((impl_NoteBytes.f k (wrap64 (rd l0 0)) t144 t146).bind fun t150 => ((slices_Equal_byte_byte.f k t150 l0).bind fun t153 => (if t153 = true then (some (wrap64 (rd l0 0), t144, t146, true)) else (some (0, 0, ([] : List Int), false)))))) else (none))) else (none))
theorem impl_NoteFrom.mono : ∀ a0 k, LeO (impl_NoteFrom.f k a0) (impl_NoteFrom.f (k + 1) a0) := by
 intro a0 k
 unfold impl_NoteFrom.f
 repeat' first
   | (with_reducible exact impl_NoteBytes.mono _ _ _ _)
   | (with_reducible exact impl_NumberAt.mono _ _ _ _)
   | (with_reducible exact slices_Equal_byte_byte.mono _ _ _)
   | (with_reducible exact LeO.refl _)
   | (with_reducible exact LeO.none _)
   | (with_reducible refine LeO.ite ?_ ?_)
   | (with_reducible refine LeO.bind ?_ (fun _ => ?_))
   | exact impl_NoteBytes.mono _ _ _ _
   | exact impl_NumberAt.mono _ _ _ _
   | exact slices_Equal_byte_byte.mono _ _ _
   | exact LeO.none _
   | refine LeO.ite ?_ ?_
   | refine LeO.bind ?_ (fun _ => ?_)
def impl_NoteFrom.T3 : Bool × List (List Nat × List Nat) := (true, [([], []), ([0], [0]), ([1], [1]), ([2], [2]), ([], []), ([4], [4]), ([], []), ([6], [6]), ([7, 5], [7]), ([3, 5, 8], [3, 5, 8]), ([], []), ([10, 9, 8, 0, 1, 2, 3, 4, 5, 6, 7, 8, 9, 10], [9, 10])])
def impl_NoteFrom.B3 : List Nat := [0, 1, 3, 7, 0, 16, 0, 64, 240, 511, 0, 2047]
theorem impl_NoteFrom.tab3 : rtab .any (opsOf Try.f19 3) = impl_NoteFrom.T3 := by kernel_rfl
theorem impl_NoteFrom.bits3 : waitsOk impl_NoteFrom.T3.2 impl_NoteFrom.B3 = true := by kernel_rfl
set_option maxHeartbeats 8000000 in
set_option maxRecDepth 100000 in
theorem impl_NoteFrom.calls (k : Nat) (A0 : Option Addr) (c0 : Nat) (l0 : List Int) (r1 : Int) (r2 : Int) (r3 : List Int) (r4 : Bool) (w : World) (hr0 : Kd.C (Kd.int .u8) w A0 l0.length l0) (hc0 : l0.length ≤ c0) (h : impl_NoteFrom.f k l0 = some (r1, r2, r3, r4)) :
  Calls Try.prog 19 #[.slice A0 l0.length c0] w fun e w' => ∃ v2_ : Value, e = .returned (.tuple #[.agg #[.int .i64 r1, .int .i64 r2, v2_], .bool r4]) ∧ Kd.R (Kd.int .u8) 5 w' w.heap.size (fun _ => True) v2_ r3 ∧ Below w.heap.size w w' := by
 have hu44 := Try.underlying44
 have HR0 := mk_ hr0
 have HC0 := mk_ hc0
 clear hr0 hc0
 have HB := mk_ (Below.refl w.heap.size w)
 have H := h
 unfold impl_NoteFrom.f at H
 clear h
 by_cases c2 : (l0.length : Int) < 4
 focus
  rw [if_pos c2] at H
  have c2b0 : decide ((l0.length : Int) < 4) = true := decide_eq_true c2
  have c2b1 : decide (l0.length < 4) = true := decide_eq_true (by omega)
  clear c2
  simp only [Option.some.injEq, Prod.mk.injEq] at H
  obtain ⟨rfl, rfl, rfl, rfl⟩ := H
 rotate_left
 focus
  rw [if_neg c2] at H
  have c2b0 : decide ((l0.length : Int) < 4) = false := decide_eq_false c2
  have c2b1 : decide (l0.length < 4) = false := decide_eq_false (by omega)
  clear c2
  by_cases c5 : 0 < (l0.length : Int)
  rotate_left
  ·rw [if_neg c5] at H
   exact absurd H (by simp)
  rw [if_pos c5] at H
  have c5b0 : decide (0 < (l0.length : Int)) = true := decide_eq_true c5
  have c5b1 : decide (0 < l0.length) = true := decide_eq_true (by omega)
  clear c5
  replace H := Option.bind_eq_some_iff.mp H
  obtain ⟨t144, A60, H⟩ := H
  (try dsimp only at H)
  have A6 := mk_ A60
  clear A60
  by_cases c7 : 4 ≤ (l0.length : Int)
  rotate_left
  ·rw [if_neg c7] at H
   exact absurd H (by simp)
  rw [if_pos c7] at H
  have c7b0 := eq_true c7
  have c7b1 : decide (4 ≤ (l0.length : Int)) = true := decide_eq_true c7
  clear c7
  replace H := Option.bind_eq_some_iff.mp H
  obtain ⟨t146, A80, H⟩ := H
  (try dsimp only at H)
  have A8 := mk_ A80
  clear A80
  replace H := Option.bind_eq_some_iff.mp H
  obtain ⟨t150, A90, H⟩ := H
  (try dsimp only at H)
  have A9 := mk_ A90
  clear A90
  replace H := Option.bind_eq_some_iff.mp H
  obtain ⟨t153, A100, H⟩ := H
  (try dsimp only at H)
  have A10 := mk_ A100
  clear A100
  by_cases c11 : t153 = true
  focus
   subst c11
   rw [if_pos rfl] at H
   simp only [Option.some.injEq, Prod.mk.injEq] at H
   obtain ⟨rfl, rfl, rfl, rfl⟩ := H
  rotate_left
  focus
   replace c11 := Bool.eq_false_iff.mpr c11
   subst c11
   rw [if_neg (show ¬ (false = true) by decide)] at H
   simp only [Option.some.injEq, Prod.mk.injEq] at H
   obtain ⟨rfl, rfl, rfl, rfl⟩ := H
  rotate_left
 rotate_left 2
 all_goals
  go_enter Try.func19, Try.ntmps19
 have z23_ := trivial
 rotate_left
 have z24_ := trivial
 rotate_left
 have z24_ := trivial
 rotate_left
 all_goals
  try go_wp2_with (first | (have zz_ := z23_; clear zz_; (with_reducible refine gate_dst (N := 2) rfl ?_); refine box_event ?hg (N := 2) ?hd (cs := #[.int .i64 0, .int .i64 0, .slice none 0 0]) (t := 44) ?hr ?_; (case hd => rfl); (case hg => rfl); (case hr => first | (go_simp; done) | (go_simp; rfl)); intro gb13240 hg w13241 hbox hb; have n0_ := mk_ (below_step (ub_ HB.out) hb); have BK142 := mk_ (hbox); have GW142 := mk_ ((by rw [hg]; exact (below_size (ub_ HB.out)) : w.heap.size ≤ gb13240)); have GE142 := ge_ ((by rw [hg]; exact (below_size (ub_ HB.out)) : w.heap.size ≤ gb13240)); replace HB := n0_; clear n0_; clear hb hbox hg; obtain ⟨_, _, _, _, _, _⟩ := cells3_ BK142.out) | (have zz_ := z24_; clear zz_; (with_reducible refine gate_dst (N := 2) rfl ?_); refine box_event ?hg (N := 2) ?hd (cs := #[.int .i64 0, .int .i64 0, .slice none 0 0]) (t := 44) ?hr ?_; (case hd => rfl); (case hg => rfl); (case hr => first | (go_simp; done) | (go_simp; rfl)); intro gb13240 hg w13241 hbox hb; have n0_ := mk_ (below_step (ub_ HB.out) hb); have BK142 := mk_ (hbox); have GW142 := mk_ ((by rw [hg]; exact (below_size (ub_ HB.out)) : w.heap.size ≤ gb13240)); have GE142 := ge_ ((by rw [hg]; exact (below_size (ub_ HB.out)) : w.heap.size ≤ gb13240)); replace HB := n0_; clear n0_; clear hb hbox hg; obtain ⟨i13242, hi13242, _, hsz13243, _⟩ := info_parts info5; obtain ⟨A13243, hcut13243, hA13243, hC13243⟩ := print_drop_of (P := Try.prog) (Value.int .u8) 0 22 5 .i64 Try.underlying22 hi13242 hsz13243 A0 c0 l0 4 (by omega) (of_decide_eq_true (by first | (with_reducible assumption) | assumption)) HC0.out; have HR13244 := mk_ (Kd.C_of_reads (h1 := fun _ => rfl) (hA13243 _ (Kd.reads_of_C HR0.out))); have HC13244 := mk_ hC13243; clear hA13243 hC13243 hi13242 hsz13243))
 ·refine bodyPost_ret (results_ct rfl _ _ gb13240 44 #[.int .i64 0, .int .i64 0, .slice none 0 0] (0, 0) _ rfl (by (with_reducible repeat (first | refine bn_ ?_ _ | refine bw_ ?_ | refine ba_ ?_ _)); refine blk_put (cs := #[.int .i64 0, .int .i64 0, .slice none 0 0]) ?_ 2 _ rfl; (with_reducible repeat (first | refine bn_ ?_ _ | refine bw_ ?_ | refine ba_ ?_ _)); refine blk_put (cs := #[.int .i64 0, .int .i64 0, .slice none 0 0]) ?_ 1 _ rfl; (with_reducible repeat (first | refine bn_ ?_ _ | refine bw_ ?_ | refine ba_ ?_ _)); refine blk_put (cs := #[.int .i64 0, .int .i64 0, .slice none 0 0]) ?_ 0 _ rfl; (with_reducible repeat (first | refine bn_ ?_ _ | refine bw_ ?_ | refine ba_ ?_ _)); exact BK142.out) Try.underlying44 rfl (by kernel_rfl)) rfl ?_
  exact ⟨_, by first | rfl | (simp [errW_none, errW_some] <;> rfl) | (simp [*, errW_none, errW_some] <;> rfl), by first | exact Kd.R_nil _ _ _ _ _ | exact Kd.N_nil _ _ _ _ _ | exact Kd.V_nil _ _ _ _ _ | exact Kd.Q_nil _ _ _ _ _ | exact Kd.S_nil _ _ _ _ _, us_ HB.out⟩
 all_goals
  have n0_ := mk_ (blk_drew BK142.out)
  have n1_ := mk_ (below_drew1 HB.out)
  clear BK142
  clear HB
  have BK142 := n0_
  have HB := n1_
  clear n0_ n1_
  have p13320 : 0 ≤ (0 : Int) := (by omega)
  have q13320 : 0 < (l0.length : Int) := of_decide_eq_true (by first | (with_reducible assumption) | assumption)
  obtain ⟨ad13320, e13320, hx143_0⟩ := Kd.at_int HR0.out 0 p13320 q13320
  have hw143_0 := hx143_0
  (try rw [show ((0 : Int)).toNat = 0 from rfl] at hw143_0)
  (try rw [show 0 * 1 = 0 from rfl] at hw143_0)
  (try rw [Addr.add_zero'] at hw143_0)
  cases e13320
  have qi13320 : (0 < l0.length) = True := eq_true (by omega)
  (try rw [show ((0 : Int)).toNat = 0 from rfl] at hx143_0)
  (try rw [Addr.add_zero'] at hx143_0)
  replace hx143_0 := (HB.out.cell (lc_ w _ hx143_0)).trans hx143_0
  replace p13320 := eq_true p13320
  replace q13320 := eq_true q13320
  refine start_ (n := 12) (S := fun w' => w'.cell? ad13320 = some (.int .u8 (rd l0 0))) (ds := []) #[F_, F_, F_, F_, F_, F_, F_, F_, F_, F_, F_, F_] (by kernel_rfl) rfl rfl (((HB.out.cell (lc_ w _ hw143_0)).trans hw143_0)) (fun hHeld => ?_); refine with_tabW impl_NoteFrom.tab3 impl_NoteFrom.bits3 (fun HT_ HW_ => ?_)
  generalize w13241.drew = w13880 at BK142 HB hx143_0 hHeld ⊢
  refine pure_ (i := 0) (N := some 9) (v := ?_) (a' := ?_) #[T_, F_, F_, F_, F_, F_, F_, F_, F_, F_, F_, F_] rfl rfl (any_of HT_.out (by kernel_rfl)) (fun _ _ _ h => h) (Or.inl ⟨by rfl, ?_⟩) ?_ ?_
  rotate_left
  ·intro w'
   go_simp
   with_reducible rfl
  rotate_left
  ·simp only [Act.put, la_, lz_, ls_, i64_w, i32_w]
   rfl
  refine pure_ (i := 1) (N := some 10) (v := ?_) (a' := ?_) #[T_, T_, F_, F_, F_, F_, F_, F_, F_, F_, F_, F_] rfl rfl (any_of HT_.out (by kernel_rfl)) (fun _ _ _ h => h) (Or.inl ⟨by rfl, ?_⟩) ?_ ?_
  rotate_left
  ·intro w'
   go_simp
   with_reducible rfl
  rotate_left
  ·simp only [Act.put, la_, lz_, ls_, i64_w, i32_w]
   rfl
  refine pure_ (i := 4) (N := some 13) (v := ?_) (a' := ?_) #[T_, T_, F_, F_, T_, F_, F_, F_, F_, F_, F_, F_] rfl rfl (any_of HT_.out (by kernel_rfl)) (fun _ _ _ h => h) (Or.inl ⟨by rfl, ?_⟩) ?_ ?_
  rotate_left
  ·intro w'
   go_simp
   with_reducible rfl
  rotate_left
  ·simp only [Act.put, la_, lz_, ls_, i64_w, i32_w]
   rfl
  refine pure_ (i := 6) (N := some 15) (v := ?_) (a' := ?_) #[T_, T_, F_, F_, T_, F_, T_, F_, F_, F_, F_, F_] rfl rfl (any_of HT_.out (by kernel_rfl)) (fun _ _ _ h => h) (Or.inl ⟨by rfl, ?_⟩) ?_ ?_
  rotate_left
  ·intro w'
   go_simp
   with_reducible rfl
  rotate_left
  ·simp only [Act.put, la_, lz_, ls_, i64_w, i32_w]
   rfl
  refine pure_ (i := 7) (N := some 16) (v := ?_) (a' := ?_) #[T_, T_, F_, F_, T_, F_, T_, T_, F_, F_, F_, F_] rfl rfl (any_of HT_.out (by kernel_rfl)) (fun _ _ _ h => h) (Or.inl ⟨by rfl, ?_⟩) ?_ ?_
  rotate_left
  ·intro w'
   go_simp
   with_reducible rfl
  rotate_left
  ·simp only [Act.put, la_, lz_, ls_, i64_w, i32_w]
   rfl
  refine take_ (i := 2) (N := some 11) (v := ?_) (a' := ?_) #[T_, T_, T_, F_, T_, F_, T_, T_, F_, F_, F_, F_] rfl rfl (take_ofW HT_.out HW_.out (by kernel_rfl)) (fun _ _ _ h => h) (Or.inl ⟨by rfl, ?_⟩) hHeld ?_ ?_
  rotate_left
  ·intro w' s13920
   go_simp
   with_reducible rfl
  rotate_left
  ·simp only [Act.put, la_, lz_, ls_, i64_w, i32_w]
   rfl
  refine pure_ (i := 3) (N := some 12) (v := ?_) (a' := ?_) #[T_, T_, T_, T_, T_, F_, T_, T_, F_, F_, F_, F_] rfl rfl (any_of HT_.out (by kernel_rfl)) (fun _ _ _ h => h) (Or.inl ⟨by rfl, ?_⟩) ?_ ?_
  rotate_left
  ·intro w'
   go_simp
   with_reducible rfl
  rotate_left
  ·simp only [Act.put, la_, lz_, ls_, i64_w, i32_w]
   rfl
  refine join_ (σ := Value × Nat) 1 #[T_, T_, T_, T_, T_, T_, T_, T_, T_, T_, T_, F_] (fun s_ => [(14, .int .i64 t144), (17, s_.1), (4, .pointer (some ⟨s_.2, 0, none⟩)), (18, .agg #[.int .i64 (wrap64 (rd l0 0)), .int .i64 t144, s_.1])]) (fun s_ w' => (w'.cell? ad13320 = some (.int .u8 (rd l0 0))) ∧ (Kd.R (Kd.int .u8) 5 w' w.heap.size (fun _ => True) s_.1 t146) ∧ (w'.heap[gb13240]? = some (.cells #[.int .i64 0, .int .i64 0, .slice none 0 0] 44 (0, 0))) ∧ (w'.heap[s_.2]? = some (.cells #[.int .i64 0, .int .i64 0, .slice none 0 0] 44 (0, 0))) ∧ (w.heap.size ≤ s_.2) ∧ (w.heap.size ≤ s_.2) ∧ (gb13240 ≠ s_.2) ∧ (s_.2 ≠ gb13240) ∧ (Below w.heap.size w w')) ?_ ?_
  rotate_left
  ·intro hCont
   refine two_ (i := 5) (j := 10) (Ni := some 14) (Nj := some 4) #[T_, T_, T_, T_, T_, T_, T_, T_, F_, F_, F_, F_] #[T_, T_, T_, T_, T_, F_, T_, T_, F_, F_, T_, F_] rfl rfl rfl rfl (two_of HT_.out (by kernel_rfl)) (by decide) (by decide) (fun K hK => ?_) (fun K hK => ?_)
   ·skip
    refine goes_ Try.func62 (by kernel_rfl) rfl #[.slice (some ad13320) l0.length c0, .int .i64 1, .int .i64 2] (by rfl) rfl rfl (by (try simp only [lm_, lo_, ln_]); try rfl) ?_
    with_reducible refine (impl_NumberAt.calls k _ _ l0 1 2 t144 _ ?side1 ?side2 A6.out).mono ?_
    (case side1 => repeat (first | exact (Kd.C_below HR0.out HB.out) | (with_reducible refine Kd.C_alloc ?_ _) | (with_reducible refine Kd.C_drewN ?_ _) | (with_reducible refine Kd.C_drew ?_)))
    (case side2 => exact HC0.out)
    rintro e w' ⟨rfl, ⟨nd, rfl⟩⟩
    refine ⟨_, rfl, ?_⟩
    refine hK.out _ _ (((HB.out.cell (lc_ w _ hw143_0)).trans hw143_0)) (fun hHeld => ?_)
    clear hK K
    refine norm_ (a' := ?_) ?_ ?_
    rotate_left
    ·show Act.put _ (some 14) _ = _
     simp only [Act.put, la_, lz_, ls_, i64_w, i32_w]
     rfl
    refine two_ (i := 8) (j := 10) (Ni := some 17) (Nj := some 4) #[T_, T_, T_, T_, T_, T_, T_, T_, T_, F_, F_, F_] #[T_, T_, T_, T_, T_, T_, T_, T_, F_, F_, T_, F_] rfl rfl rfl rfl (two_of HT_.out (by kernel_rfl)) (by decide) (by decide) (fun K hK => ?_) (fun K hK => ?_)
    ·skip
     refine goes_ Try.func63 (by kernel_rfl) rfl #[.slice A13243 (l0.drop 4).length (c0 - 4)] (by rfl) rfl rfl (by (try simp only [List.map_toArray, List.map_cons, List.map_nil]); first | done | (rw [show (l0.drop 4).length = (l0.length - 4) from List.length_drop] <;> rfl) | rfl | (simp only [List.length_drop, List.length_take]; rfl)) ?_
     with_reducible refine (impl_clone_byte.calls _ _ (l0.drop 4) t146 _ ?side1 ?side2 A8.out).mono ?_
     (case side1 => repeat (first | exact (Kd.C_below HR13244.out (us_ HB.out)) | (with_reducible refine Kd.C_alloc ?_ _) | (with_reducible refine Kd.C_drewN ?_ _) | (with_reducible refine Kd.C_drew ?_)))
     (case side2 => exact HC13244.out)
     rintro e w21400 ⟨v21401, rfl, ho13920, hb⟩
     refine ⟨_, rfl, ?_⟩
     have n0_ := mk_ (Kd.R_lower ho13920 (below_size (us_ HB.out)))
     have n1_ := mk_ (blk_below (u_ BK142.out) hb)
     have n2_ := mk_ (below_step (us_ HB.out) hb)
     clear BK142
     clear HB
     have HO148 := n0_
     have BK142 := n1_
     have HB := n2_
     clear n0_ n1_ n2_
     (try clear hb)
     (try clear hb2)
     (try clear hk)
     (try clear hi)
     (try clear ho13920)
     obtain ⟨Ao5100148, co5100148, eo5100148⟩ := Kd.R_slice HO148.out
     (first | subst eo5100148 | (injection eo5100148 with f1_ f2_ f3_; have f4_ := f1_.symm; have f5_ := f3_.symm; clear f1_ f2_ f3_; subst f4_; subst f5_))
     refine hK.out _ _ (((HB.out.cell (lc_ w _ hw143_0)).trans hw143_0)) (fun hHeld => ?_)
     clear hK K
     refine norm_ (a' := ?_) ?_ ?_
     rotate_left
     ·show Act.put _ (some 17) _ = _
      simp only [Act.put, la_, lz_, ls_, i64_w, i32_w]
      rfl
     refine pure_ (i := 9) (N := some 18) (v := ?_) (a' := ?_) #[T_, T_, T_, T_, T_, T_, T_, T_, T_, T_, F_, F_] rfl rfl (any_of HT_.out (by kernel_rfl)) (fun _ _ _ h => h) (Or.inl ⟨by rfl, ?_⟩) ?_ ?_
     rotate_left
     ·intro w'
      go_simp
      with_reducible rfl
     rotate_left
     ·simp only [Act.put, la_, lz_, ls_, i64_w, i32_w]
      rfl
     refine one_ (i := 10) (N := some 4) #[T_, T_, T_, T_, T_, T_, T_, T_, T_, T_, T_, F_] rfl rfl (one_of HT_.out (by kernel_rfl)) (by decide) (fun K hK => ?_)
     refine box_step ?hg (N := 4) ?hd (cs := #[.int .i64 0, .int .i64 0, .slice none 0 0]) (t := 44) ?hr ?_; (case hd => rfl); (case hg => rfl); (case hr => first | (go_simp; done) | (go_simp; rfl))
     intro gb21402 hg w5100148 hbox hb
     have n0_ := mk_ (Kd.R_below (Kd.ur_ HO148.out) hb)
     have n1_ := mk_ (blk_below (u_ BK142.out) hb)
     have n2_ := mk_ (below_step (us_ HB.out) hb)
     have n3_ := mk_ (hbox)
     have n4_ := mk_ ((by rw [hg]; exact (below_size (us_ HB.out)) : w.heap.size ≤ gb21402))
     have n5_ := mk_ ((by rw [hg]; exact (below_size (us_ HB.out)) : w.heap.size ≤ gb21402))
     have n6_ := mk_ ((by rw [hg]; exact Nat.ne_of_lt (blk_lt (u_ BK142.out)) : gb13240 ≠ gb21402))
     have n7_ := mk_ ((by rw [hg]; exact Nat.ne_of_gt (blk_lt (u_ BK142.out)) : gb21402 ≠ gb13240))
     clear HO148
     clear BK142
     clear HB
     have HO148 := n0_
     have BK142 := n1_
     have HB := n2_
     have BK149 := n3_
     have GW149 := n4_
     have GE149 := ge_ n5_.out
     have NB142_149 := nq_ n6_.out
     have NB149_142 := nq_ n7_.out
     clear n0_ n1_ n2_ n3_ n4_ n5_ n6_ n7_
     clear hb hbox hg
     refine hK.out _ _ (((HB.out.cell (lc_ w _ hw143_0)).trans hw143_0)) (fun hHeld => ?_)
     clear hK K
     refine norm_ (a' := ?_) ?_ ?_
     rotate_left
     ·show Act.put _ (some 4) _ = _
      simp only [Act.put, la_, lz_, ls_, i64_w, i32_w]
      rfl
     exact norm_ (by simp only [putAll, Act.put, la_, lz_, ls_]) (hCont (.slice Ao5100148 t146.length co5100148, gb21402) _ ⟨hHeld, (Kd.ur_ HO148.out), (u_ BK142.out), (u_ BK149.out), GW149.out, GE149.out, NB142_149.out, NB149_142.out, (us_ HB.out)⟩)
    skip
    refine box_step ?hg (N := 4) ?hd (cs := #[.int .i64 0, .int .i64 0, .slice none 0 0]) (t := 44) ?hr ?_; (case hd => rfl); (case hg => rfl); (case hr => first | (go_simp; done) | (go_simp; rfl))
    intro gb21402 hg w21400 hbox hb
    have n0_ := mk_ (blk_below (u_ BK142.out) hb)
    have n1_ := mk_ (below_step (us_ HB.out) hb)
    have n2_ := mk_ (hbox)
    have n3_ := mk_ ((by rw [hg]; exact (below_size (us_ HB.out)) : w.heap.size ≤ gb21402))
    have n4_ := mk_ ((by rw [hg]; exact (below_size (us_ HB.out)) : w.heap.size ≤ gb21402))
    have n5_ := mk_ ((by rw [hg]; exact Nat.ne_of_lt (blk_lt (u_ BK142.out)) : gb13240 ≠ gb21402))
    have n6_ := mk_ ((by rw [hg]; exact Nat.ne_of_gt (blk_lt (u_ BK142.out)) : gb21402 ≠ gb13240))
    clear BK142
    clear HB
    have BK142 := n0_
    have HB := n1_
    have BK149 := n2_
    have GW149 := n3_
    have GE149 := ge_ n4_.out
    have NB142_149 := nq_ n5_.out
    have NB149_142 := nq_ n6_.out
    clear n0_ n1_ n2_ n3_ n4_ n5_ n6_
    clear hb hbox hg
    refine hK.out _ _ (((HB.out.cell (lc_ w _ hw143_0)).trans hw143_0)) (fun hHeld => ?_)
    clear hK K
    refine norm_ (a' := ?_) ?_ ?_
    rotate_left
    ·show Act.put _ (some 4) _ = _
     simp only [Act.put, la_, lz_, ls_, i64_w, i32_w]
     rfl
    refine one_ (i := 8) (N := some 17) #[T_, T_, T_, T_, T_, T_, T_, T_, T_, F_, T_, F_] rfl rfl (one_of HT_.out (by kernel_rfl)) (by decide) (fun K hK => ?_)
    refine goes_ Try.func63 (by kernel_rfl) rfl #[.slice A13243 (l0.drop 4).length (c0 - 4)] (by rfl) rfl rfl (by (try simp only [List.map_toArray, List.map_cons, List.map_nil]); first | done | (rw [show (l0.drop 4).length = (l0.length - 4) from List.length_drop] <;> rfl) | rfl | (simp only [List.length_drop, List.length_take]; rfl)) ?_
    with_reducible refine (impl_clone_byte.calls _ _ (l0.drop 4) t146 _ ?side1 ?side2 A8.out).mono ?_
    (case side1 => repeat (first | exact (Kd.C_below HR13244.out HB.out) | (with_reducible refine Kd.C_alloc ?_ _) | (with_reducible refine Kd.C_drewN ?_ _) | (with_reducible refine Kd.C_drew ?_)))
    (case side2 => exact HC13244.out)
    rintro e w5100148 ⟨v21401, rfl, ho13920, hb⟩
    refine ⟨_, rfl, ?_⟩
    have n0_ := mk_ (Kd.R_lower ho13920 (below_size (us_ HB.out)))
    have n1_ := mk_ (blk_below (u_ BK142.out) hb)
    have n2_ := mk_ (blk_below (u_ BK149.out) hb)
    have n3_ := mk_ (below_step (us_ HB.out) hb)
    clear BK142
    clear BK149
    clear HB
    have HO148 := n0_
    have BK142 := n1_
    have BK149 := n2_
    have HB := n3_
    clear n0_ n1_ n2_ n3_
    (try clear hb)
    (try clear hb2)
    (try clear hk)
    (try clear hi)
    (try clear ho13920)
    obtain ⟨Ao5100148, co5100148, eo5100148⟩ := Kd.R_slice HO148.out
    (first | subst eo5100148 | (injection eo5100148 with f1_ f2_ f3_; have f4_ := f1_.symm; have f5_ := f3_.symm; clear f1_ f2_ f3_; subst f4_; subst f5_))
    refine hK.out _ _ (((HB.out.cell (lc_ w _ hw143_0)).trans hw143_0)) (fun hHeld => ?_)
    clear hK K
    refine norm_ (a' := ?_) ?_ ?_
    rotate_left
    ·show Act.put _ (some 17) _ = _
     simp only [Act.put, la_, lz_, ls_, i64_w, i32_w]
     rfl
    refine pure_ (i := 9) (N := some 18) (v := ?_) (a' := ?_) #[T_, T_, T_, T_, T_, T_, T_, T_, T_, T_, T_, F_] rfl rfl (any_of HT_.out (by kernel_rfl)) (fun _ _ _ h => h) (Or.inl ⟨by rfl, ?_⟩) ?_ ?_
    rotate_left
    ·intro w'
     go_simp
     with_reducible rfl
    rotate_left
    ·simp only [Act.put, la_, lz_, ls_, i64_w, i32_w]
     rfl
    exact norm_ (by simp only [putAll, Act.put, la_, lz_, ls_]) (hCont (.slice Ao5100148 t146.length co5100148, gb21402) _ ⟨hHeld, (Kd.ur_ HO148.out), (u_ BK142.out), (u_ BK149.out), GW149.out, GE149.out, NB142_149.out, NB149_142.out, (us_ HB.out)⟩)
   skip
   refine box_step ?hg (N := 4) ?hd (cs := #[.int .i64 0, .int .i64 0, .slice none 0 0]) (t := 44) ?hr ?_; (case hd => rfl); (case hg => rfl); (case hr => first | (go_simp; done) | (go_simp; rfl))
   intro gb21402 hg w21400 hbox hb
   have n0_ := mk_ (blk_below (u_ BK142.out) hb)
   have n1_ := mk_ (below_step (us_ HB.out) hb)
   have n2_ := mk_ (hbox)
   have n3_ := mk_ ((by rw [hg]; exact (below_size (us_ HB.out)) : w.heap.size ≤ gb21402))
   have n4_ := mk_ ((by rw [hg]; exact (below_size (us_ HB.out)) : w.heap.size ≤ gb21402))
   have n5_ := mk_ ((by rw [hg]; exact Nat.ne_of_lt (blk_lt (u_ BK142.out)) : gb13240 ≠ gb21402))
   have n6_ := mk_ ((by rw [hg]; exact Nat.ne_of_gt (blk_lt (u_ BK142.out)) : gb21402 ≠ gb13240))
   clear BK142
   clear HB
   have BK142 := n0_
   have HB := n1_
   have BK149 := n2_
   have GW149 := n3_
   have GE149 := ge_ n4_.out
   have NB142_149 := nq_ n5_.out
   have NB149_142 := nq_ n6_.out
   clear n0_ n1_ n2_ n3_ n4_ n5_ n6_
   clear hb hbox hg
   refine hK.out _ _ (((HB.out.cell (lc_ w _ hw143_0)).trans hw143_0)) (fun hHeld => ?_)
   clear hK K
   refine norm_ (a' := ?_) ?_ ?_
   rotate_left
   ·show Act.put _ (some 4) _ = _
    simp only [Act.put, la_, lz_, ls_, i64_w, i32_w]
    rfl
   refine one_ (i := 5) (N := some 14) #[T_, T_, T_, T_, T_, T_, T_, T_, F_, F_, T_, F_] rfl rfl (one_of HT_.out (by kernel_rfl)) (by decide) (fun K hK => ?_)
   refine goes_ Try.func62 (by kernel_rfl) rfl #[.slice (some ad13320) l0.length c0, .int .i64 1, .int .i64 2] (by rfl) rfl rfl (by (try simp only [lm_, lo_, ln_]); try rfl) ?_
   with_reducible refine (impl_NumberAt.calls k _ _ l0 1 2 t144 _ ?side1 ?side2 A6.out).mono ?_
   (case side1 => repeat (first | exact (Kd.C_below HR0.out HB.out) | (with_reducible refine Kd.C_alloc ?_ _) | (with_reducible refine Kd.C_drewN ?_ _) | (with_reducible refine Kd.C_drew ?_)))
   (case side2 => exact HC0.out)
   rintro e w' ⟨rfl, ⟨nd, rfl⟩⟩
   refine ⟨_, rfl, ?_⟩
   refine hK.out _ _ (((HB.out.cell (lc_ w _ hw143_0)).trans hw143_0)) (fun hHeld => ?_)
   clear hK K
   refine norm_ (a' := ?_) ?_ ?_
   rotate_left
   ·show Act.put _ (some 14) _ = _
    simp only [Act.put, la_, lz_, ls_, i64_w, i32_w]
    rfl
   refine one_ (i := 8) (N := some 17) #[T_, T_, T_, T_, T_, T_, T_, T_, T_, F_, T_, F_] rfl rfl (one_of HT_.out (by kernel_rfl)) (by decide) (fun K hK => ?_)
   refine goes_ Try.func63 (by kernel_rfl) rfl #[.slice A13243 (l0.drop 4).length (c0 - 4)] (by rfl) rfl rfl (by (try simp only [List.map_toArray, List.map_cons, List.map_nil]); first | done | (rw [show (l0.drop 4).length = (l0.length - 4) from List.length_drop] <;> rfl) | rfl | (simp only [List.length_drop, List.length_take]; rfl)) ?_
   with_reducible refine (impl_clone_byte.calls _ _ (l0.drop 4) t146 _ ?side1 ?side2 A8.out).mono ?_
   (case side1 => repeat (first | exact (Kd.C_below HR13244.out (us_ HB.out)) | (with_reducible refine Kd.C_alloc ?_ _) | (with_reducible refine Kd.C_drewN ?_ _) | (with_reducible refine Kd.C_drew ?_)))
   (case side2 => exact HC13244.out)
   rintro e w5100148 ⟨v21401, rfl, ho13920, hb⟩
   refine ⟨_, rfl, ?_⟩
   have n0_ := mk_ (Kd.R_lower ho13920 (below_size (us_ HB.out)))
   have n1_ := mk_ (blk_below (u_ BK142.out) hb)
   have n2_ := mk_ (blk_below (u_ BK149.out) hb)
   have n3_ := mk_ (below_step (us_ HB.out) hb)
   clear BK142
   clear BK149
   clear HB
   have HO148 := n0_
   have BK142 := n1_
   have BK149 := n2_
   have HB := n3_
   clear n0_ n1_ n2_ n3_
   (try clear hb)
   (try clear hb2)
   (try clear hk)
   (try clear hi)
   (try clear ho13920)
   obtain ⟨Ao5100148, co5100148, eo5100148⟩ := Kd.R_slice HO148.out
   (first | subst eo5100148 | (injection eo5100148 with f1_ f2_ f3_; have f4_ := f1_.symm; have f5_ := f3_.symm; clear f1_ f2_ f3_; subst f4_; subst f5_))
   refine hK.out _ _ (((HB.out.cell (lc_ w _ hw143_0)).trans hw143_0)) (fun hHeld => ?_)
   clear hK K
   refine norm_ (a' := ?_) ?_ ?_
   rotate_left
   ·show Act.put _ (some 17) _ = _
    simp only [Act.put, la_, lz_, ls_, i64_w, i32_w]
    rfl
   refine pure_ (i := 9) (N := some 18) (v := ?_) (a' := ?_) #[T_, T_, T_, T_, T_, T_, T_, T_, T_, T_, T_, F_] rfl rfl (any_of HT_.out (by kernel_rfl)) (fun _ _ _ h => h) (Or.inl ⟨by rfl, ?_⟩) ?_ ?_
   rotate_left
   ·intro w'
    go_simp
    with_reducible rfl
   rotate_left
   ·simp only [Act.put, la_, lz_, ls_, i64_w, i32_w]
    rfl
   exact norm_ (by simp only [putAll, Act.put, la_, lz_, ls_]) (hCont (.slice Ao5100148 t146.length co5100148, gb21402) _ ⟨hHeld, (Kd.ur_ HO148.out), (u_ BK142.out), (u_ BK149.out), GW149.out, GE149.out, NB142_149.out, NB149_142.out, (us_ HB.out)⟩)
  rintro ⟨v21401, gb21402⟩ w21440 ⟨hS_, h0_, h1_, h2_, h3_, h4_, h5_, h6_, h7_⟩
  have n0_ : Aside0 (Kd.R (Kd.int .u8) 5 w21440 w.heap.size (fun _ => True) v21401 t146) := ⟨h0_⟩
  have n1_ : Aside0 (w21440.heap[gb13240]? = some (.cells #[.int .i64 0, .int .i64 0, .slice none 0 0] 44 (0, 0))) := ⟨h1_⟩
  have n2_ : Aside0 (w21440.heap[gb21402]? = some (.cells #[.int .i64 0, .int .i64 0, .slice none 0 0] 44 (0, 0))) := ⟨h2_⟩
  have n3_ : Aside0 (w.heap.size ≤ gb21402) := ⟨h3_⟩
  have n4_ : Aside0 (w.heap.size ≤ gb21402) := ⟨h4_⟩
  have n5_ : Aside0 (gb13240 ≠ gb21402) := ⟨h5_⟩
  have n6_ : Aside0 (gb21402 ≠ gb13240) := ⟨h6_⟩
  have n7_ : Aside0 (Below w.heap.size w w21440) := ⟨h7_⟩
  clear BK142
  clear HB
  clear h0_ h1_ h2_ h3_ h4_ h5_ h6_ h7_
  have HO148 := n0_
  have BK142 := n1_
  have BK149 := n2_
  have GW149 := n3_
  have GE149 := ge_ n4_.out
  have NB142_149 := nq_ n5_.out
  have NB149_142 := nq_ n6_.out
  have HB := n7_
  clear n0_ n1_ n2_ n3_ n4_ n5_ n6_ n7_
  have hHeld : w21440.cell? ad13320 = some (.int .u8 (rd l0 0)) := hS_
  obtain ⟨Ao560148, co560148, eo560148⟩ := Kd.R_slice HO148.out
  (first | subst eo560148 | (injection eo560148 with f1_ f2_ f3_; have f4_ := f1_.symm; have f5_ := f3_.symm; clear f1_ f2_ f3_; subst f4_; subst f5_))
  refine norm_ (a' := ?_) ?_ ?_
  rotate_left
  ·simp only [putAll, Act.put, la_, lz_, ls_]
   rfl
  refine one_ (i := 11) (N := none) #[T_, T_, T_, T_, T_, T_, T_, T_, T_, T_, T_, T_] rfl rfl (one_of HT_.out (by kernel_rfl)) (by decide) (fun K hK => ?_)
  have hs7640 : w21440.cell? ⟨gb21402, 0, none⟩ = some (.int .i64 0) := (blk_cell BK149.out 0).trans rfl
  have hfs7640 := blk_frozen BK149.out 0
  have hns7640_0 := NB142_149.out
  have hms7640_0 := NB149_142.out
  have hs7800 : w21440.cell? ⟨gb21402, 1, none⟩ = some (.int .i64 0) := (blk_cell BK149.out 1).trans rfl
  have hfs7800 := blk_frozen BK149.out 1
  have hns7800_0 := NB142_149.out
  have hms7800_0 := NB149_142.out
  have hs8920 : w21440.cell? ⟨gb21402, 2, none⟩ = some (.slice none 0 0) := (blk_cell BK149.out 2).trans rfl
  have hfs8920 := blk_frozen BK149.out 2
  have hns8920_0 := NB142_149.out
  have hms8920_0 := NB149_142.out
  refine skip_ (w1 := ?_) (by rfl) rfl ?_ ?_
  rotate_left
  ·go_simp
   rfl
  refine hK.out _ _ (((cell_far (p := ⟨gb21402, _, none⟩) (by first | exact (ne1_ (by have := lc_ _ _ hw143_0; first | rwa [add_block] at this | exact this) GW149.out) | (rw [add_block]; exact (ne1_ (by have := lc_ _ _ hw143_0; first | rwa [add_block] at this | exact this) GW149.out)) | (show (Addr.add _ _).block ≠ _; rw [add_block]; exact (ne1_ (by have := lc_ _ _ hw143_0; first | rwa [add_block] at this | exact this) GW149.out)) | (dsimp only; exact (ne1_ (by have := lc_ _ _ hw143_0; first | rwa [add_block] at this | exact this) GW149.out))) _).trans (((cell_far (p := ⟨gb21402, _, none⟩) (by first | exact (ne1_ (by have := lc_ _ _ hw143_0; first | rwa [add_block] at this | exact this) GW149.out) | (rw [add_block]; exact (ne1_ (by have := lc_ _ _ hw143_0; first | rwa [add_block] at this | exact this) GW149.out)) | (show (Addr.add _ _).block ≠ _; rw [add_block]; exact (ne1_ (by have := lc_ _ _ hw143_0; first | rwa [add_block] at this | exact this) GW149.out)) | (dsimp only; exact (ne1_ (by have := lc_ _ _ hw143_0; first | rwa [add_block] at this | exact this) GW149.out))) _).trans (((cell_far (p := ⟨gb21402, _, none⟩) (by first | exact (ne1_ (by have := lc_ _ _ hw143_0; first | rwa [add_block] at this | exact this) GW149.out) | (rw [add_block]; exact (ne1_ (by have := lc_ _ _ hw143_0; first | rwa [add_block] at this | exact this) GW149.out)) | (show (Addr.add _ _).block ≠ _; rw [add_block]; exact (ne1_ (by have := lc_ _ _ hw143_0; first | rwa [add_block] at this | exact this) GW149.out)) | (dsimp only; exact (ne1_ (by have := lc_ _ _ hw143_0; first | rwa [add_block] at this | exact this) GW149.out))) _).trans (hHeld))))))) (fun hHeld => ?_)
  clear hK K
  refine done_ (done_of HT_.out (by kernel_rfl)) ?_
  have n0_ : Aside0 (Kd.R (Kd.int .u8) 5 (((w21440.setCell ⟨gb21402, 0, none⟩ (.int .i64 (wrap64 (rd l0 0)))).setCell ⟨gb21402, 1, none⟩ (.int .i64 t144)).setCell ⟨gb21402, 2, none⟩ (.slice Ao560148 t146.length co560148)) w.heap.size (fun _ => True) (.slice Ao560148 t146.length co560148) t146) := ⟨by (with_reducible repeat (first | apply Kd.R_alloc | apply Kd.R_drewN | apply Kd.R_drew)); exact Kd.R_mono (Kd.R_far (p := ⟨gb21402, 2, none⟩) (Kd.R_far (p := ⟨gb21402, 1, none⟩) (Kd.R_far (p := ⟨gb21402, 0, none⟩) (Kd.R_types HO148.out BK149.out (by decide)) (fun _ hk => hk.2) (.int .i64 (wrap64 (rd l0 0)))) (fun _ hk => hk.2) (.int .i64 t144)) (fun _ hk => hk.2) (.slice Ao560148 t146.length co560148)) (fun _ hk => trivial)⟩
  have n1_ : Aside0 ((((w21440.setCell ⟨gb21402, 0, none⟩ (.int .i64 (wrap64 (rd l0 0)))).setCell ⟨gb21402, 1, none⟩ (.int .i64 t144)).setCell ⟨gb21402, 2, none⟩ (.slice Ao560148 t146.length co560148)).heap[gb13240]? = some (.cells #[.int .i64 0, .int .i64 0, .slice none 0 0] 44 (0, 0))) := ⟨uf_ BK142.out⟩
  have n2_ : Aside0 ((((w21440.setCell ⟨gb21402, 0, none⟩ (.int .i64 (wrap64 (rd l0 0)))).setCell ⟨gb21402, 1, none⟩ (.int .i64 t144)).setCell ⟨gb21402, 2, none⟩ (.slice Ao560148 t146.length co560148)).heap[gb21402]? = some (.cells #[.int .i64 (wrap64 (rd l0 0)), .int .i64 t144, .slice Ao560148 t146.length co560148] 44 (0, 0))) := ⟨by (with_reducible repeat (first | refine bn_ ?_ _ | refine bw_ ?_ | refine ba_ ?_ _)); refine blk_put (cs := #[.int .i64 (wrap64 (rd l0 0)), .int .i64 t144, .slice none 0 0]) ?_ 2 _ rfl; (with_reducible repeat (first | refine bn_ ?_ _ | refine bw_ ?_ | refine ba_ ?_ _)); refine blk_put (cs := #[.int .i64 (wrap64 (rd l0 0)), .int .i64 0, .slice none 0 0]) ?_ 1 _ rfl; (with_reducible repeat (first | refine bn_ ?_ _ | refine bw_ ?_ | refine ba_ ?_ _)); refine blk_put (cs := #[.int .i64 0, .int .i64 0, .slice none 0 0]) ?_ 0 _ rfl; (with_reducible repeat (first | refine bn_ ?_ _ | refine bw_ ?_ | refine ba_ ?_ _)); exact BK149.out⟩
  have n3_ : Aside0 (Below w.heap.size w (((w21440.setCell ⟨gb21402, 0, none⟩ (.int .i64 (wrap64 (rd l0 0)))).setCell ⟨gb21402, 1, none⟩ (.int .i64 t144)).setCell ⟨gb21402, 2, none⟩ (.slice Ao560148 t146.length co560148))) := ⟨us_ HB.out⟩
  (try clear HO148)
  (try clear BK142)
  (try clear BK149)
  (try clear HB)
  generalize (((w21440.setCell ⟨gb21402, 0, none⟩ (.int .i64 (wrap64 (rd l0 0)))).setCell ⟨gb21402, 1, none⟩ (.int .i64 t144)).setCell ⟨gb21402, 2, none⟩ (.slice Ao560148 t146.length co560148)) = w15080 at n0_ n1_ n2_ n3_ ⊢
  have HO148 := n0_
  have BK142 := n1_
  have BK149 := n2_
  have HB := n3_
  clear n0_ n1_ n2_ n3_
  have hnb3990142149 := NB149_142.out
  have hnc3990142149 := NB142_149.out
  obtain ⟨_, _, _, _, _, _⟩ := cells3_ BK149.out
  try go_wp2_with (first | ((with_reducible refine gate_callee (f := 65) rfl ?_); refine goesL_ (some 20) rfl rfl Try.func65 (by kernel_rfl) rfl #[.agg #[.int .i64 (wrap64 (rd l0 0)), .int .i64 t144, .slice Ao560148 t146.length co560148]] rfl (by (try simp only [lm_, lo_, ln_]); try rfl) ?_; (with_reducible refine (impl_NoteBytes.calls k (wrap64 (rd l0 0)) t144 (fun k_ => some k_ = (.slice Ao560148 t146.length co560148 : Value).ownBlock) _ _ t146 t150 _ ?side1 A9.out).mono ?_); (case side1 => exact Kd.R_V (Kd.R_tight rfl (Kd.R_types (Kd.R_types (HO148.out) BK142.out (by decide)) BK149.out (by decide)))); rintro e w21480 ⟨v21481, rfl, ho13920, hb⟩; refine ⟨_, rfl, ?_⟩; have n0_ := mk_ (Kd.R_elder' (Kd.ur_ HO148.out) (Kd.R_base ho13920) hb); have HO152 := mk_ (Kd.R_lower (Kd.R_new' (Kd.R_mono (ok' := fun k_ => True) ho13920 (fun _ hk_ => trivial)) (Kd.R_lt (Kd.ur_ HO148.out))) (below_size (us_ HB.out))); replace BK142 := mk_ (blk_below (u_ BK142.out) hb); replace BK149 := mk_ (blk_below (u_ BK149.out) hb); replace HB := mk_ (below_step (us_ HB.out) hb); replace HO148 := n0_; clear n0_; obtain ⟨Ao5120152, co5120152, eo5120152⟩ := Kd.R_slice HO152.out; subst eo5120152) | ((with_reducible refine gate_callee (f := 64) rfl ?_); refine goesL_ (some 22) rfl rfl Try.func64 (by kernel_rfl) rfl #[.slice Ao5120152 t150.length co5120152, .slice (some ad13320) l0.length c0] rfl (by (try simp only [lm_, lo_, ln_]); try rfl) ?_; (with_reducible refine (slices_Equal_byte_byte.calls k _ _ t150 _ _ l0 true _ ?side1 ?side2 ?side3 ?side4 A10.out).mono ?_); (case side1 => repeat (first | exact (Kd.R_reads' HO152.out).2.2 | (with_reducible refine Kd.C_alloc ?_ _) | (with_reducible refine Kd.C_drewN ?_ _) | (with_reducible refine Kd.C_drew ?_))); (case side2 => exact (Kd.R_reads' HO152.out).2.1); (case side3 => repeat (first | exact (Kd.C_below HR0.out HB.out) | (with_reducible refine Kd.C_alloc ?_ _) | (with_reducible refine Kd.C_drewN ?_ _) | (with_reducible refine Kd.C_drew ?_))); (case side4 => exact HC0.out); rintro e w' ⟨rfl, ⟨nd, rfl⟩⟩; refine ⟨_, rfl, ?_⟩; (try simp only [World.drewN_drewN]); (try (rw [drewN_self w21480]; generalize hq_ : World.drewN w21480 _ = w21480; have n0_ : Aside0 (Kd.R (Kd.int .u8) 5 w21480 w.heap.size (fun k_ => some k_ ≠ (.slice Ao5120152 t150.length co5120152 : Value).ownBlock) (.slice Ao560148 t146.length co560148) t146) := ⟨by rw [← hq_]; exact (by (with_reducible repeat (first | apply Kd.R_alloc | apply Kd.R_drewN | apply Kd.R_drew)); exact Kd.R_mono HO148.out (fun _ hk => hk.2))⟩; have n1_ : Aside0 (Kd.R (Kd.int .u8) 5 w21480 w.heap.size (fun k_ => some k_ ≠ (.slice Ao560148 t146.length co560148 : Value).ownBlock) (.slice Ao5120152 t150.length co5120152) t150) := ⟨by rw [← hq_]; exact (by (with_reducible repeat (first | apply Kd.R_alloc | apply Kd.R_drewN | apply Kd.R_drew)); exact Kd.R_mono HO152.out (fun _ hk => hk.2))⟩; have n2_ : Aside0 (w21480.heap[gb13240]? = some (.cells #[.int .i64 0, .int .i64 0, .slice none 0 0] 44 (0, 0))) := ⟨by rw [← hq_]; exact (u_ BK142.out)⟩; have n3_ : Aside0 (w21480.heap[gb21402]? = some (.cells #[.int .i64 (wrap64 (rd l0 0)), .int .i64 t144, .slice Ao560148 t146.length co560148] 44 (0, 0))) := ⟨by rw [← hq_]; exact (u_ BK149.out)⟩; have n4_ : Aside0 (Below w.heap.size w w21480) := ⟨by rw [← hq_]; exact (us_ HB.out)⟩; clear HO148 HO152 BK142 BK149 HB hq_; have HO148 := n0_; have HO152 := n1_; have BK142 := n2_; have BK149 := n3_; have HB := n4_; clear n0_ n1_ n2_ n3_ n4_)); obtain ⟨_, _, _, _, _, _⟩ := cells3_ BK149.out; obtain ⟨_, _, _, _, _, _⟩ := cells3_ BK142.out) | ((with_reducible refine gate_callee (f := 64) rfl ?_); refine goesL_ (some 22) rfl rfl Try.func64 (by kernel_rfl) rfl #[.slice Ao5120152 t150.length co5120152, .slice (some ad13320) l0.length c0] rfl (by (try simp only [lm_, lo_, ln_]); try rfl) ?_; (with_reducible refine (slices_Equal_byte_byte.calls k _ _ t150 _ _ l0 false _ ?side1 ?side2 ?side3 ?side4 A10.out).mono ?_); (case side1 => repeat (first | exact (Kd.R_reads' HO152.out).2.2 | (with_reducible refine Kd.C_alloc ?_ _) | (with_reducible refine Kd.C_drewN ?_ _) | (with_reducible refine Kd.C_drew ?_))); (case side2 => exact (Kd.R_reads' HO152.out).2.1); (case side3 => repeat (first | exact (Kd.C_below HR0.out HB.out) | (with_reducible refine Kd.C_alloc ?_ _) | (with_reducible refine Kd.C_drewN ?_ _) | (with_reducible refine Kd.C_drew ?_))); (case side4 => exact HC0.out); rintro e w' ⟨rfl, ⟨nd, rfl⟩⟩; refine ⟨_, rfl, ?_⟩; (try simp only [World.drewN_drewN]); (try (rw [drewN_self w21480]; generalize hq_ : World.drewN w21480 _ = w21480; have n0_ : Aside0 (Kd.R (Kd.int .u8) 5 w21480 w.heap.size (fun k_ => some k_ ≠ (.slice Ao5120152 t150.length co5120152 : Value).ownBlock) (.slice Ao560148 t146.length co560148) t146) := ⟨by rw [← hq_]; exact (by (with_reducible repeat (first | apply Kd.R_alloc | apply Kd.R_drewN | apply Kd.R_drew)); exact Kd.R_mono HO148.out (fun _ hk => hk.2))⟩; have n1_ : Aside0 (Kd.R (Kd.int .u8) 5 w21480 w.heap.size (fun k_ => some k_ ≠ (.slice Ao560148 t146.length co560148 : Value).ownBlock) (.slice Ao5120152 t150.length co5120152) t150) := ⟨by rw [← hq_]; exact (by (with_reducible repeat (first | apply Kd.R_alloc | apply Kd.R_drewN | apply Kd.R_drew)); exact Kd.R_mono HO152.out (fun _ hk => hk.2))⟩; have n2_ : Aside0 (w21480.heap[gb13240]? = some (.cells #[.int .i64 0, .int .i64 0, .slice none 0 0] 44 (0, 0))) := ⟨by rw [← hq_]; exact (u_ BK142.out)⟩; have n3_ : Aside0 (w21480.heap[gb21402]? = some (.cells #[.int .i64 (wrap64 (rd l0 0)), .int .i64 t144, .slice Ao560148 t146.length co560148] 44 (0, 0))) := ⟨by rw [← hq_]; exact (u_ BK149.out)⟩; have n4_ : Aside0 (Below w.heap.size w w21480) := ⟨by rw [← hq_]; exact (us_ HB.out)⟩; clear HO148 HO152 BK142 BK149 HB hq_; have HO148 := n0_; have HO152 := n1_; have BK142 := n2_; have BK149 := n3_; have HB := n4_; clear n0_ n1_ n2_ n3_ n4_)); obtain ⟨_, _, _, _, _, _⟩ := cells3_ BK142.out))
 ·refine bodyPost_ret (results_ct rfl _ _ gb13240 44 #[.int .i64 (wrap64 (rd l0 0)), .int .i64 t144, .slice Ao560148 t146.length co560148] (0, 0) _ rfl (by (with_reducible repeat (first | refine bn_ ?_ _ | refine bw_ ?_ | refine ba_ ?_ _)); refine blk_put (cs := #[.int .i64 (wrap64 (rd l0 0)), .int .i64 t144, .slice none 0 0]) ?_ 2 _ rfl; (with_reducible repeat (first | refine bn_ ?_ _ | refine bw_ ?_ | refine ba_ ?_ _)); refine blk_put (cs := #[.int .i64 (wrap64 (rd l0 0)), .int .i64 0, .slice none 0 0]) ?_ 1 _ rfl; (with_reducible repeat (first | refine bn_ ?_ _ | refine bw_ ?_ | refine ba_ ?_ _)); refine blk_put (cs := #[.int .i64 0, .int .i64 0, .slice none 0 0]) ?_ 0 _ rfl; (with_reducible repeat (first | refine bn_ ?_ _ | refine bw_ ?_ | refine ba_ ?_ _)); exact BK142.out) Try.underlying44 rfl (by kernel_rfl)) rfl ?_
  exact ⟨_, by first | rfl | (simp [errW_none, errW_some] <;> rfl) | (simp [*, errW_none, errW_some] <;> rfl), by (with_reducible repeat (first | apply Kd.R_alloc | apply Kd.R_drewN | apply Kd.R_drew)); exact Kd.R_mono (Kd.R_far (p := ⟨gb13240, 2, none⟩) (Kd.R_far (p := ⟨gb13240, 1, none⟩) (Kd.R_far (p := ⟨gb13240, 0, none⟩) (Kd.R_types HO148.out BK142.out (by decide)) (fun _ hk => hk.2) (.int .i64 (wrap64 (rd l0 0)))) (fun _ hk => hk.2) (.int .i64 t144)) (fun _ hk => hk.2) (.slice Ao560148 t146.length co560148)) (fun _ hk => trivial), us_ HB.out⟩
 ·refine bodyPost_ret (results_ct rfl _ _ gb13240 44 #[.int .i64 0, .int .i64 0, .slice none 0 0] (0, 0) _ rfl (by (with_reducible repeat (first | refine bn_ ?_ _ | refine bw_ ?_ | refine ba_ ?_ _)); refine blk_put (cs := #[.int .i64 0, .int .i64 0, .slice none 0 0]) ?_ 2 _ rfl; (with_reducible repeat (first | refine bn_ ?_ _ | refine bw_ ?_ | refine ba_ ?_ _)); refine blk_put (cs := #[.int .i64 0, .int .i64 0, .slice none 0 0]) ?_ 1 _ rfl; (with_reducible repeat (first | refine bn_ ?_ _ | refine bw_ ?_ | refine ba_ ?_ _)); refine blk_put (cs := #[.int .i64 0, .int .i64 0, .slice none 0 0]) ?_ 0 _ rfl; (with_reducible repeat (first | refine bn_ ?_ _ | refine bw_ ?_ | refine ba_ ?_ _)); exact BK142.out) Try.underlying44 rfl (by kernel_rfl)) rfl ?_
  exact ⟨_, by first | rfl | (simp [errW_none, errW_some] <;> rfl) | (simp [*, errW_none, errW_some] <;> rfl), by first | exact Kd.R_nil _ _ _ _ _ | exact Kd.N_nil _ _ _ _ _ | exact Kd.V_nil _ _ _ _ _ | exact Kd.Q_nil _ _ _ _ _ | exact Kd.S_nil _ _ _ _ _, us_ HB.out⟩

end Go.Proofs.Ytkkibccnpkbbjab.MFnNoteAbout
