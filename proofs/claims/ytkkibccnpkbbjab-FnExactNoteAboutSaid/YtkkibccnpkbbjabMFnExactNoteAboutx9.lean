/- Functions that the law FnExactNoteAbout reaches, each with the proof that the machine's call comes to just its answer; no conditions but those that each theorem states. Printed by a program of this session over the kit's print. -/
import Derived.Test.YtkkibccnpkbbjabMFnExactNoteAboutx0
import Derived.Test.YtkkibccnpkbbjabMFnExactNoteAboutx7
import Derived.Test.YtkkibccnpkbbjabMFnExactNoteAboutx8
namespace Go.Proofs.Ytkkibccnpkbbjab.MFnExactNoteAbout
open Go.RowKit Go.Proofs.YtkkibccnpkbbjabV.PrintWords Go.Proofs.YtkkibccnpkbbjabV.PrintLast Go.Proofs.YtkkibccnpkbbjabV.PrintMore
attribute [local go_sem] max2_int min2_int max_two min_two max_three min_three max_four min_four   -- for this text's walks alone
set_option linter.unusedVariables false
set_option linter.unusedSimpArgs false

/-! ### spec_l4Head: function 109 -/
def spec_l4Head.f (k : Nat) (a0_0 : Int) (a0_1 : Int) (a0_2 : Int) (a0_3 : Int) (a0_4 : Int) (a0_5 : Int) (a0_6 : Bool) (a0_7 : Bool) (l0_8 : List Int) : Option (List Int) := (spec_BytesOf.f k a0_0 2).bind fun t261 => ((spec_BytesOf.f k a0_1 2).bind fun t264 => (if t261.length + t264.length < 140737488355328 then ((some (t261 ++ t264 : List Int)).bind fun y267 => ((spec_l4Flags.f a0_0 a0_1 a0_2 a0_3 a0_4 a0_5 a0_6 a0_7 l0_8).bind fun t270 => ((some (([(a0_2) % 256, (a0_3) % 256, (a0_4) % 256, (a0_5) % 256, (t270) % 256, ((l0_8.length : Int)) % 256] : List Int) : List Int)).bind fun y271 => (if y267.length + y271.length < 140737488355328 then (some (y267 ++ y271)) else (none))))) else (none)))
theorem spec_l4Head.mono : ∀ a0 a1 a2 a3 a4 a5 a6 a7 a8 k, LeO (spec_l4Head.f k a0 a1 a2 a3 a4 a5 a6 a7 a8) (spec_l4Head.f (k + 1) a0 a1 a2 a3 a4 a5 a6 a7 a8) := by
 intro a0 a1 a2 a3 a4 a5 a6 a7 a8 k
 unfold spec_l4Head.f
 repeat' first
   | (with_reducible exact spec_BytesOf.mono _ _ _)
   | (with_reducible exact LeO.refl _)
   | (with_reducible exact LeO.none _)
   | (with_reducible refine LeO.ite ?_ ?_)
   | (with_reducible refine LeO.bind ?_ (fun _ => ?_))
   | exact spec_BytesOf.mono _ _ _
   | exact LeO.none _
   | refine LeO.ite ?_ ?_
   | refine LeO.bind ?_ (fun _ => ?_)
def spec_l4Head.T1 : Bool × List (List Nat × List Nat) := (true, [([], []), ([0], [0]), ([1], [1]), ([], []), ([3], [3]), ([4, 2], [4]), ([2, 5, 5], [2, 5]), ([6, 6, 0, 1, 2, 3, 4, 5, 6], [6])])
def spec_l4Head.B1 : List Nat := [0, 1, 3, 0, 8, 31, 63, 127]
theorem spec_l4Head.tab1 : rtab .any (opsOf Try.f109 1) = spec_l4Head.T1 := by kernel_rfl
theorem spec_l4Head.bits1 : waitsOk spec_l4Head.T1.2 spec_l4Head.B1 = true := by kernel_rfl
def spec_l4Head.T2 : Bool × List (List Nat × List Nat) := (true, [([], []), ([], []), ([1], [1]), ([2], [2]), ([], []), ([4], [4]), ([5], [5]), ([], []), ([7], [7]), ([8], [8]), ([], []), ([10], [10]), ([11], [11]), ([], []), ([13], [13]), ([14], [14]), ([], []), ([16], [16]), ([17], [17]), ([18], [18]), ([3, 6, 9, 12, 15, 19], [3, 6, 9, 12, 15, 19]), ([0, 20, 14], [0, 20]), ([21, 21, 0, 1, 2, 3, 4, 5, 6, 7, 8, 9, 10, 11, 12, 13, 14, 15, 16, 17, 18, 19, 20, 21], [21])])
def spec_l4Head.B2 : List Nat := [0, 0, 2, 6, 0, 16, 48, 0, 128, 384, 0, 1024, 3072, 0, 8192, 24576, 0, 65536, 196608, 458752, 1048574, 2097151, 4194303]
theorem spec_l4Head.tab2 : rtab .any (opsOf Try.f109 2) = spec_l4Head.T2 := by kernel_rfl
theorem spec_l4Head.bits2 : waitsOk spec_l4Head.T2.2 spec_l4Head.B2 = true := by kernel_rfl
set_option maxHeartbeats 8000000 in
set_option maxRecDepth 100000 in
theorem spec_l4Head.calls (k : Nat) (a0_0 : Int) (a0_1 : Int) (a0_2 : Int) (a0_3 : Int) (a0_4 : Int) (a0_5 : Int) (a0_6 : Bool) (a0_7 : Bool) (A0_8 : Option Addr) (c0_8 : Nat) (l0_8 : List Int) (r : List Int) (w : World) (hr0_8 : Kd.C (Kd.int .u8) w A0_8 l0_8.length l0_8) (hc0_8 : l0_8.length ≤ c0_8) (h : spec_l4Head.f k a0_0 a0_1 a0_2 a0_3 a0_4 a0_5 a0_6 a0_7 l0_8 = some r) :
  Calls Try.prog 109 #[.agg #[.int .i64 a0_0, .int .i64 a0_1, .int .i64 a0_2, .int .i64 a0_3, .int .i64 a0_4, .int .i64 a0_5, .bool a0_6, .bool a0_7, .slice A0_8 l0_8.length c0_8]] w fun e w' => ∃ v0_ : Value, e = .returned (v0_) ∧ Kd.R (Kd.int .u8) 5 w' w.heap.size (fun _ => True) v0_ r ∧ Below w.heap.size w w' := by
 have hu37 := Try.underlying37
 have HR0_8 := mk_ hr0_8
 have HC0_8 := mk_ hc0_8
 clear hr0_8 hc0_8
 have HB := mk_ (Below.refl w.heap.size w)
 have H := h
 unfold spec_l4Head.f at H
 clear h
 replace H := Option.bind_eq_some_iff.mp H
 obtain ⟨t261, A20, H⟩ := H
 (try dsimp only at H)
 have A2 := mk_ A20
 clear A20
 replace H := Option.bind_eq_some_iff.mp H
 obtain ⟨t264, A30, H⟩ := H
 (try dsimp only at H)
 have A3 := mk_ A30
 clear A30
 by_cases c4 : t261.length + t264.length < 140737488355328
 rotate_left
 ·rw [if_neg c4] at H
  exact absurd H (by simp)
 rw [if_pos c4] at H
 have LMc4 := mk_ c4
 clear c4
 obtain ⟨y267, hy267⟩ : ∃ y_ : List Int, y_ = (t261 ++ t264) := ⟨_, rfl⟩
 replace H : ((spec_l4Flags.f a0_0 a0_1 a0_2 a0_3 a0_4 a0_5 a0_6 a0_7 l0_8).bind fun t270 => ((some (([(a0_2) % 256, (a0_3) % 256, (a0_4) % 256, (a0_5) % 256, (t270) % 256, ((l0_8.length : Int)) % 256] : List Int) : List Int)).bind fun y271 => (if y267.length + y271.length < 140737488355328 then (some (y267 ++ y271)) else (none)))) = some r := by first | (rw [hy267]; with_reducible exact H) | (have H2_ := (Option.bind_some _ _).symm.trans H; rw [hy267]; with_reducible exact H2_) | (have H2_ := (Option.bind_some _ _).symm.trans H; with_reducible exact H2_) | with_reducible exact H | (rw [hy267]; exact H) | exact H
 have Ny267 := mk_ hy267
 clear hy267
 replace H := Option.bind_eq_some_iff.mp H
 obtain ⟨t270, A50, H⟩ := H
 (try dsimp only at H)
 have A5 := mk_ A50
 clear A50
 obtain ⟨y271, hy271⟩ : ∃ y_ : List Int, y_ = (([(a0_2) % 256, (a0_3) % 256, (a0_4) % 256, (a0_5) % 256, (t270) % 256, ((l0_8.length : Int)) % 256] : List Int)) := ⟨_, rfl⟩
 replace H : (if y267.length + y271.length < 140737488355328 then (some (y267 ++ y271)) else (none)) = some r := by first | (rw [hy271]; with_reducible exact H) | (have H2_ := (Option.bind_some _ _).symm.trans H; rw [hy271]; with_reducible exact H2_) | (have H2_ := (Option.bind_some _ _).symm.trans H; with_reducible exact H2_) | with_reducible exact H | (rw [hy271]; exact H) | exact H
 have Ny271 := mk_ hy271
 clear hy271
 by_cases c6 : y267.length + y271.length < 140737488355328
 rotate_left
 ·rw [if_neg c6] at H
  exact absurd H (by simp)
 rw [if_pos c6] at H
 have LMc6 := mk_ c6
 clear c6
 obtain ⟨y274, hy274⟩ : ∃ y_ : List Int, y_ = (y267 ++ y271) := ⟨_, rfl⟩
 replace H : (some y274) = some r := by first | (rw [hy274]; with_reducible exact H) | (have H2_ := (Option.bind_some _ _).symm.trans H; rw [hy274]; with_reducible exact H2_) | (have H2_ := (Option.bind_some _ _).symm.trans H; with_reducible exact H2_) | with_reducible exact H | (rw [hy274]; exact H) | exact H
 have Ny274 := mk_ hy274
 clear hy274
 obtain rfl := Option.some.inj H
 go_enter Try.func109, Try.ntmps109
 try go_wp2_with (first | ((with_reducible refine gate_dst (N := 1) rfl ?_); refine box_event ?hg (N := 1) ?hd (cs := #[.int .i64 a0_0, .int .i64 a0_1, .int .i64 a0_2, .int .i64 a0_3, .int .i64 a0_4, .int .i64 a0_5, .bool a0_6, .bool a0_7, .slice A0_8 l0_8.length c0_8]) (t := 37) ?hr ?_; (case hd => rfl); (case hg => rfl); (case hr => first | (go_simp; done) | (go_simp; rfl)); intro gb260 hg w7 hbox hb; have n0_ := mk_ (below_step (ub_ HB.out) hb); have BK260 := mk_ (hbox); have GW260 := mk_ ((by rw [hg]; exact (below_size (ub_ HB.out)) : w.heap.size ≤ gb260)); have GE260 := ge_ ((by rw [hg]; exact (below_size (ub_ HB.out)) : w.heap.size ≤ gb260)); replace HB := n0_; clear n0_; clear hb hbox hg))
 have n0_ := mk_ (blk_drew BK260.out)
 have n1_ := mk_ (below_drew1 HB.out)
 clear BK260
 clear HB
 have BK260 := n0_
 have HB := n1_
 clear n0_ n1_
 refine start_ (n := 8) (S := fun w' => w'.cell? ⟨gb260, 0, none⟩ = some (.int .i64 a0_0) ∧ w'.cell? ⟨gb260, 1, none⟩ = some (.int .i64 a0_1) ∧ w'.cell? ⟨gb260, 2, none⟩ = some (.int .i64 a0_2) ∧ w'.cell? ⟨gb260, 3, none⟩ = some (.int .i64 a0_3) ∧ w'.cell? ⟨gb260, 4, none⟩ = some (.int .i64 a0_4) ∧ w'.cell? ⟨gb260, 5, none⟩ = some (.int .i64 a0_5) ∧ w'.cell? ⟨gb260, 6, none⟩ = some (.bool a0_6) ∧ w'.cell? ⟨gb260, 7, none⟩ = some (.bool a0_7) ∧ w'.cell? ⟨gb260, 8, none⟩ = some (.slice A0_8 l0_8.length c0_8)) (ds := []) #[F_, F_, F_, F_, F_, F_, F_, F_] (by kernel_rfl) rfl rfl ⟨(blk_cell BK260.out 0).trans rfl, (blk_cell BK260.out 1).trans rfl, (blk_cell BK260.out 2).trans rfl, (blk_cell BK260.out 3).trans rfl, (blk_cell BK260.out 4).trans rfl, (blk_cell BK260.out 5).trans rfl, (blk_cell BK260.out 6).trans rfl, (blk_cell BK260.out 7).trans rfl, (blk_cell BK260.out 8).trans rfl⟩ (fun hHeld => ?_); refine with_tabW spec_l4Head.tab1 spec_l4Head.bits1 (fun HT_ HW_ => ?_)
 generalize w7.drew = w8 at BK260 HB hHeld ⊢
 refine pure_ (i := 0) (N := some 4) (v := ?_) (a' := ?_) #[T_, F_, F_, F_, F_, F_, F_, F_] rfl rfl (any_of HT_.out (by kernel_rfl)) (fun _ _ _ h => h) (Or.inl ⟨by rfl, ?_⟩) ?_ ?_
 rotate_left
 ·intro w'
  go_simp
  with_reducible rfl
 rotate_left
 ·simp only [Act.put, la_, lz_, ls_, i64_w, i32_w]
  rfl
 refine pure_ (i := 3) (N := some 7) (v := ?_) (a' := ?_) #[T_, F_, F_, T_, F_, F_, F_, F_] rfl rfl (any_of HT_.out (by kernel_rfl)) (fun _ _ _ h => h) (Or.inl ⟨by rfl, ?_⟩) ?_ ?_
 rotate_left
 ·intro w'
  go_simp
  with_reducible rfl
 rotate_left
 ·simp only [Act.put, la_, lz_, ls_, i64_w, i32_w]
  rfl
 refine take_ (i := 1) (N := some 5) (v := ?_) (a' := ?_) #[T_, T_, F_, T_, F_, F_, F_, F_] rfl rfl (take_ofW HT_.out HW_.out (by kernel_rfl)) (fun _ _ _ h => h) (Or.inl ⟨by rfl, ?_⟩) hHeld ?_ ?_
 rotate_left
 ·rintro w' ⟨s0, s1, s2, s3, s4, s5, s6, s7, s8⟩
  go_simp
  with_reducible rfl
 rotate_left
 ·simp only [Act.put, la_, lz_, ls_, i64_w, i32_w]
  rfl
 refine take_ (i := 4) (N := some 8) (v := ?_) (a' := ?_) #[T_, T_, F_, T_, T_, F_, F_, F_] rfl rfl (take_ofW HT_.out HW_.out (by kernel_rfl)) (fun _ _ _ h => h) (Or.inl ⟨by rfl, ?_⟩) hHeld ?_ ?_
 rotate_left
 ·rintro w' ⟨s0, s1, s2, s3, s4, s5, s6, s7, s8⟩
  go_simp
  with_reducible rfl
 rotate_left
 ·simp only [Act.put, la_, lz_, ls_, i64_w, i32_w]
  rfl
 refine one_ (i := 2) (N := some 6) #[T_, T_, T_, T_, T_, F_, F_, F_] rfl rfl (one_of HT_.out (by kernel_rfl)) (by decide) (fun K hK => ?_)
 refine goes_ Try.func103 (by kernel_rfl) rfl #[.int .i64 a0_0, .int .i64 2] (by rfl) rfl rfl (by (try simp only [lm_, lo_, ln_]); try rfl) ?_
 with_reducible refine (spec_BytesOf.calls k a0_0 2 t261 _ A2.out).mono ?_
 rintro e w9 ⟨v262, rfl, ho0, hb⟩
 refine ⟨_, rfl, ?_⟩
 have n0_ := mk_ (Kd.R_lower ho0 (below_size (us_ HB.out)))
 have n1_ := mk_ (blk_below (u_ BK260.out) hb)
 have n2_ := mk_ (below_step (us_ HB.out) hb)
 clear BK260
 clear HB
 have HO263 := n0_
 have BK260 := n1_
 have HB := n2_
 clear n0_ n1_ n2_
 (try clear hb)
 (try clear hb2)
 (try clear hk)
 (try clear hi)
 (try clear ho0)
 refine hK.out _ _ ⟨(blk_cell BK260.out 0).trans rfl, (blk_cell BK260.out 1).trans rfl, (blk_cell BK260.out 2).trans rfl, (blk_cell BK260.out 3).trans rfl, (blk_cell BK260.out 4).trans rfl, (blk_cell BK260.out 5).trans rfl, (blk_cell BK260.out 6).trans rfl, (blk_cell BK260.out 7).trans rfl, (blk_cell BK260.out 8).trans rfl⟩ (fun hHeld => ?_)
 clear hK K
 refine norm_ (a' := ?_) ?_ ?_
 rotate_left
 ·show Act.put _ (some 6) _ = _
  simp only [Act.put, la_, lz_, ls_, i64_w, i32_w]
  rfl
 refine one_ (i := 5) (N := some 9) #[T_, T_, T_, T_, T_, T_, F_, F_] rfl rfl (one_of HT_.out (by kernel_rfl)) (by decide) (fun K hK => ?_)
 refine goes_ Try.func103 (by kernel_rfl) rfl #[.int .i64 a0_1, .int .i64 2] (by rfl) rfl rfl (by (try simp only [lm_, lo_, ln_]); try rfl) ?_
 with_reducible refine (spec_BytesOf.calls k a0_1 2 t264 _ A3.out).mono ?_
 rintro e w10 ⟨v265, rfl, ho0, hb⟩
 refine ⟨_, rfl, ?_⟩
 have n0_ := mk_ (Kd.R_elder' (Kd.ur_ HO263.out) (Kd.R_base ho0) hb)
 have n1_ := mk_ (Kd.R_lower (Kd.R_new' ho0 (Kd.R_lt (Kd.ur_ HO263.out))) (below_size (us_ HB.out)))
 have n2_ := mk_ (blk_below (u_ BK260.out) hb)
 have n3_ := mk_ (below_step (us_ HB.out) hb)
 clear HO263
 clear BK260
 clear HB
 have HO263 := n0_
 have HO266 := n1_
 have BK260 := n2_
 have HB := n3_
 clear n0_ n1_ n2_ n3_
 (try clear hb)
 (try clear hb2)
 (try clear hk)
 (try clear hi)
 (try clear ho0)
 obtain ⟨Ao12, co12, eo12⟩ := Kd.R_slice HO266.out
 (first | subst eo12 | (injection eo12 with f1_ f2_ f3_; have f4_ := f1_.symm; have f5_ := f3_.symm; clear f1_ f2_ f3_; subst f4_; subst f5_))
 refine hK.out _ _ ⟨(blk_cell BK260.out 0).trans rfl, (blk_cell BK260.out 1).trans rfl, (blk_cell BK260.out 2).trans rfl, (blk_cell BK260.out 3).trans rfl, (blk_cell BK260.out 4).trans rfl, (blk_cell BK260.out 5).trans rfl, (blk_cell BK260.out 6).trans rfl, (blk_cell BK260.out 7).trans rfl, (blk_cell BK260.out 8).trans rfl⟩ (fun hHeld => ?_)
 clear hK K
 refine norm_ (a' := ?_) ?_ ?_
 rotate_left
 ·show Act.put _ (some 9) _ = _
  simp only [Act.put, la_, lz_, ls_, i64_w, i32_w]
  rfl
 refine one_ (i := 6) (N := some 10) #[T_, T_, T_, T_, T_, T_, T_, F_] rfl rfl (one_of HT_.out (by kernel_rfl)) (by decide) (fun K hK => ?_)
 refine Kd.R_append_rows_step (Kd.int .u8) (w0 := w) w.heap.size (by rfl) (.tmp 6) (.tmp 9) 22 5 (.int .u8 0) 1 rfl Try.underlying22 info5 rfl (by decide) (by omega) v262 t261 t264 _ _ _ (fun k_ => some k_ ≠ (.slice Ao12 t264.length co12 : Value).ownBlock) (fun _ => False) rfl rfl ?aO ?aR (fun _ _ h => h) (fun _ h => h.elim) ?aF ?aB ?aS ?aL ?_
 (case aR => repeat (first | exact (Kd.R_reads' HO266.out).2.2 | (with_reducible refine Kd.C_alloc ?_ _) | (with_reducible refine Kd.C_drewN ?_ _) | (with_reducible refine Kd.C_drew ?_)))
 (case aB => exact (us_ HB.out))
 (case aF => exact (fun k_ hk => Kd.fresh' (Kd.R_lt (Kd.ur_ HO266.out)) k_ hk))
 (case aO => exact (by (with_reducible repeat (first | apply Kd.R_alloc | apply Kd.R_drewN | apply Kd.R_drew)); exact Kd.R_mono HO263.out (fun _ hk => hk.2)))
 (case aS => exact (below_size (us_ HB.out)))
 (case aL => have := LMc4.out; omega)
 intro v268 w11 ho hb hg hat
 rw [← Ny267.out] at ho
 have n0_ := mk_ (blk_grown (g := gb260) (o := .cells #[.int .i64 a0_0, .int .i64 a0_1, .int .i64 a0_2, .int .i64 a0_3, .int .i64 a0_4, .int .i64 a0_5, .bool a0_6, .bool a0_7, .slice A0_8 l0_8.length c0_8] 37 (0, 0)) (u_ BK260.out) hg (Kd.R_ne HO263.out BK260.out (by decide)))
 have n1_ := mk_ (Kd.R_after (ok := (fun _ => True)) (Kd.ur_ HO266.out) hg hat)
 have n2_ := mk_ (hb)
 have n3_ := mk_ (ho)
 clear BK260
 clear HO266
 clear HB
 clear HO263
 have BK260 := n0_
 have HO266 := n1_
 have HB := n2_
 have HO269 := n3_
 clear n0_ n1_ n2_ n3_
 clear ho hb hg hat
 refine hK.out _ _ ⟨(blk_cell BK260.out 0).trans rfl, (blk_cell BK260.out 1).trans rfl, (blk_cell BK260.out 2).trans rfl, (blk_cell BK260.out 3).trans rfl, (blk_cell BK260.out 4).trans rfl, (blk_cell BK260.out 5).trans rfl, (blk_cell BK260.out 6).trans rfl, (blk_cell BK260.out 7).trans rfl, (blk_cell BK260.out 8).trans rfl⟩ (fun hHeld => ?_)
 clear hK K
 refine norm_ (a' := ?_) ?_ ?_
 rotate_left
 ·show Act.put _ (some 10) _ = _
  simp only [Act.put, la_, lz_, ls_, i64_w, i32_w]
  rfl
 refine pure_ (i := 7) (N := some 3) (v := ?_) (a' := ?_) #[T_, T_, T_, T_, T_, T_, T_, T_] rfl rfl (any_of HT_.out (by kernel_rfl)) (fun _ _ _ h => h) (Or.inl ⟨by rfl, ?_⟩) ?_ ?_
 rotate_left
 ·intro w'
  go_simp
  with_reducible rfl
 rotate_left
 ·simp only [Act.put, la_, lz_, ls_, i64_w, i32_w]
  rfl
 refine done_ (done_of HT_.out (by kernel_rfl)) ?_
 try go_wp2
 have n0_ := mk_ (Kd.R_drew HO266.out)
 have n1_ := mk_ (Kd.R_drew HO269.out)
 have n2_ := mk_ (blk_drew BK260.out)
 have n3_ := mk_ (below_drew1 HB.out)
 clear HO266
 clear HO269
 clear BK260
 clear HB
 have HO266 := n0_
 have HO269 := n1_
 have BK260 := n2_
 have HB := n3_
 clear n0_ n1_ n2_ n3_
 refine start_ (n := 23) (S := fun w' => w'.cell? ⟨gb260, 0, none⟩ = some (.int .i64 a0_0) ∧ w'.cell? ⟨gb260, 1, none⟩ = some (.int .i64 a0_1) ∧ w'.cell? ⟨gb260, 2, none⟩ = some (.int .i64 a0_2) ∧ w'.cell? ⟨gb260, 3, none⟩ = some (.int .i64 a0_3) ∧ w'.cell? ⟨gb260, 4, none⟩ = some (.int .i64 a0_4) ∧ w'.cell? ⟨gb260, 5, none⟩ = some (.int .i64 a0_5) ∧ w'.cell? ⟨gb260, 6, none⟩ = some (.bool a0_6) ∧ w'.cell? ⟨gb260, 7, none⟩ = some (.bool a0_7) ∧ w'.cell? ⟨gb260, 8, none⟩ = some (.slice A0_8 l0_8.length c0_8)) (ds := []) #[F_, F_, F_, F_, F_, F_, F_, F_, F_, F_, F_, F_, F_, F_, F_, F_, F_, F_, F_, F_, F_, F_, F_] (by kernel_rfl) rfl rfl ⟨(blk_cell BK260.out 0).trans rfl, (blk_cell BK260.out 1).trans rfl, (blk_cell BK260.out 2).trans rfl, (blk_cell BK260.out 3).trans rfl, (blk_cell BK260.out 4).trans rfl, (blk_cell BK260.out 5).trans rfl, (blk_cell BK260.out 6).trans rfl, (blk_cell BK260.out 7).trans rfl, (blk_cell BK260.out 8).trans rfl⟩ (fun hHeld => ?_); refine with_tabW spec_l4Head.tab2 spec_l4Head.bits2 (fun HT_ HW_ => ?_)
 generalize w11.drew = w13 at HO266 HO269 BK260 HB hHeld ⊢
 refine pure_ (i := 0) (N := some 11) (v := ?_) (a' := ?_) #[T_, F_, F_, F_, F_, F_, F_, F_, F_, F_, F_, F_, F_, F_, F_, F_, F_, F_, F_, F_, F_, F_, F_] rfl rfl (any_of HT_.out (by kernel_rfl)) (fun _ _ _ h => h) (Or.inl ⟨by rfl, ?_⟩) ?_ ?_
 rotate_left
 ·intro w'
  go_simp
  with_reducible rfl
 rotate_left
 ·simp only [Act.put, la_, lz_, ls_, i64_w, i32_w]
  rfl
 refine pure_ (i := 1) (N := some 12) (v := ?_) (a' := ?_) #[T_, T_, F_, F_, F_, F_, F_, F_, F_, F_, F_, F_, F_, F_, F_, F_, F_, F_, F_, F_, F_, F_, F_] rfl rfl (any_of HT_.out (by kernel_rfl)) (fun _ _ _ h => h) (Or.inl ⟨by rfl, ?_⟩) ?_ ?_
 rotate_left
 ·intro w'
  go_simp
  with_reducible rfl
 rotate_left
 ·simp only [Act.put, la_, lz_, ls_, i64_w, i32_w]
  rfl
 refine pure_ (i := 4) (N := some 15) (v := ?_) (a' := ?_) #[T_, T_, F_, F_, T_, F_, F_, F_, F_, F_, F_, F_, F_, F_, F_, F_, F_, F_, F_, F_, F_, F_, F_] rfl rfl (any_of HT_.out (by kernel_rfl)) (fun _ _ _ h => h) (Or.inl ⟨by rfl, ?_⟩) ?_ ?_
 rotate_left
 ·intro w'
  go_simp
  with_reducible rfl
 rotate_left
 ·simp only [Act.put, la_, lz_, ls_, i64_w, i32_w]
  rfl
 refine pure_ (i := 7) (N := some 18) (v := ?_) (a' := ?_) #[T_, T_, F_, F_, T_, F_, F_, T_, F_, F_, F_, F_, F_, F_, F_, F_, F_, F_, F_, F_, F_, F_, F_] rfl rfl (any_of HT_.out (by kernel_rfl)) (fun _ _ _ h => h) (Or.inl ⟨by rfl, ?_⟩) ?_ ?_
 rotate_left
 ·intro w'
  go_simp
  with_reducible rfl
 rotate_left
 ·simp only [Act.put, la_, lz_, ls_, i64_w, i32_w]
  rfl
 refine pure_ (i := 10) (N := some 21) (v := ?_) (a' := ?_) #[T_, T_, F_, F_, T_, F_, F_, T_, F_, F_, T_, F_, F_, F_, F_, F_, F_, F_, F_, F_, F_, F_, F_] rfl rfl (any_of HT_.out (by kernel_rfl)) (fun _ _ _ h => h) (Or.inl ⟨by rfl, ?_⟩) ?_ ?_
 rotate_left
 ·intro w'
  go_simp
  with_reducible rfl
 rotate_left
 ·simp only [Act.put, la_, lz_, ls_, i64_w, i32_w]
  rfl
 refine pure_ (i := 16) (N := some 27) (v := ?_) (a' := ?_) #[T_, T_, F_, F_, T_, F_, F_, T_, F_, F_, T_, F_, F_, F_, F_, F_, T_, F_, F_, F_, F_, F_, F_] rfl rfl (any_of HT_.out (by kernel_rfl)) (fun _ _ _ h => h) (Or.inl ⟨by rfl, ?_⟩) ?_ ?_
 rotate_left
 ·intro w'
  go_simp
  with_reducible rfl
 rotate_left
 ·simp only [Act.put, la_, lz_, ls_, i64_w, i32_w]
  rfl
 refine take_ (i := 2) (N := some 13) (v := ?_) (a' := ?_) #[T_, T_, T_, F_, T_, F_, F_, T_, F_, F_, T_, F_, F_, F_, F_, F_, T_, F_, F_, F_, F_, F_, F_] rfl rfl (take_ofW HT_.out HW_.out (by kernel_rfl)) (fun _ _ _ h => h) (Or.inl ⟨by rfl, ?_⟩) hHeld ?_ ?_
 rotate_left
 ·rintro w' ⟨s0, s1, s2, s3, s4, s5, s6, s7, s8⟩
  go_simp
  with_reducible rfl
 rotate_left
 ·simp only [Act.put, la_, lz_, ls_, i64_w, i32_w]
  rfl
 refine pure_ (i := 3) (N := some 14) (v := ?_) (a' := ?_) #[T_, T_, T_, T_, T_, F_, F_, T_, F_, F_, T_, F_, F_, F_, F_, F_, T_, F_, F_, F_, F_, F_, F_] rfl rfl (any_of HT_.out (by kernel_rfl)) (fun _ _ _ h => h) (Or.inl ⟨by rfl, ?_⟩) ?_ ?_
 rotate_left
 ·intro w'
  go_simp
  with_reducible rfl
 rotate_left
 ·simp only [Act.put, la_, lz_, ls_, i64_w, i32_w]
  rfl
 refine take_ (i := 5) (N := some 16) (v := ?_) (a' := ?_) #[T_, T_, T_, T_, T_, T_, F_, T_, F_, F_, T_, F_, F_, F_, F_, F_, T_, F_, F_, F_, F_, F_, F_] rfl rfl (take_ofW HT_.out HW_.out (by kernel_rfl)) (fun _ _ _ h => h) (Or.inl ⟨by rfl, ?_⟩) hHeld ?_ ?_
 rotate_left
 ·rintro w' ⟨s0, s1, s2, s3, s4, s5, s6, s7, s8⟩
  go_simp
  with_reducible rfl
 rotate_left
 ·simp only [Act.put, la_, lz_, ls_, i64_w, i32_w]
  rfl
 refine pure_ (i := 6) (N := some 17) (v := ?_) (a' := ?_) #[T_, T_, T_, T_, T_, T_, T_, T_, F_, F_, T_, F_, F_, F_, F_, F_, T_, F_, F_, F_, F_, F_, F_] rfl rfl (any_of HT_.out (by kernel_rfl)) (fun _ _ _ h => h) (Or.inl ⟨by rfl, ?_⟩) ?_ ?_
 rotate_left
 ·intro w'
  go_simp
  with_reducible rfl
 rotate_left
 ·simp only [Act.put, la_, lz_, ls_, i64_w, i32_w]
  rfl
 refine take_ (i := 8) (N := some 19) (v := ?_) (a' := ?_) #[T_, T_, T_, T_, T_, T_, T_, T_, T_, F_, T_, F_, F_, F_, F_, F_, T_, F_, F_, F_, F_, F_, F_] rfl rfl (take_ofW HT_.out HW_.out (by kernel_rfl)) (fun _ _ _ h => h) (Or.inl ⟨by rfl, ?_⟩) hHeld ?_ ?_
 rotate_left
 ·rintro w' ⟨s0, s1, s2, s3, s4, s5, s6, s7, s8⟩
  go_simp
  with_reducible rfl
 rotate_left
 ·simp only [Act.put, la_, lz_, ls_, i64_w, i32_w]
  rfl
 refine pure_ (i := 9) (N := some 20) (v := ?_) (a' := ?_) #[T_, T_, T_, T_, T_, T_, T_, T_, T_, T_, T_, F_, F_, F_, F_, F_, T_, F_, F_, F_, F_, F_, F_] rfl rfl (any_of HT_.out (by kernel_rfl)) (fun _ _ _ h => h) (Or.inl ⟨by rfl, ?_⟩) ?_ ?_
 rotate_left
 ·intro w'
  go_simp
  with_reducible rfl
 rotate_left
 ·simp only [Act.put, la_, lz_, ls_, i64_w, i32_w]
  rfl
 refine take_ (i := 11) (N := some 22) (v := ?_) (a' := ?_) #[T_, T_, T_, T_, T_, T_, T_, T_, T_, T_, T_, T_, F_, F_, F_, F_, T_, F_, F_, F_, F_, F_, F_] rfl rfl (take_ofW HT_.out HW_.out (by kernel_rfl)) (fun _ _ _ h => h) (Or.inl ⟨by rfl, ?_⟩) hHeld ?_ ?_
 rotate_left
 ·rintro w' ⟨s0, s1, s2, s3, s4, s5, s6, s7, s8⟩
  go_simp
  with_reducible rfl
 rotate_left
 ·simp only [Act.put, la_, lz_, ls_, i64_w, i32_w]
  rfl
 refine pure_ (i := 12) (N := some 23) (v := ?_) (a' := ?_) #[T_, T_, T_, T_, T_, T_, T_, T_, T_, T_, T_, T_, T_, F_, F_, F_, T_, F_, F_, F_, F_, F_, F_] rfl rfl (any_of HT_.out (by kernel_rfl)) (fun _ _ _ h => h) (Or.inl ⟨by rfl, ?_⟩) ?_ ?_
 rotate_left
 ·intro w'
  go_simp
  with_reducible rfl
 rotate_left
 ·simp only [Act.put, la_, lz_, ls_, i64_w, i32_w]
  rfl
 refine take_ (i := 13) (N := some 24) (v := ?_) (a' := ?_) #[T_, T_, T_, T_, T_, T_, T_, T_, T_, T_, T_, T_, T_, T_, F_, F_, T_, F_, F_, F_, F_, F_, F_] rfl rfl (take_ofW HT_.out HW_.out (by kernel_rfl)) (fun _ _ _ h => h) (Or.inl ⟨by rfl, ?_⟩) hHeld ?_ ?_
 rotate_left
 ·rintro w' ⟨s0, s1, s2, s3, s4, s5, s6, s7, s8⟩
  go_simp
  with_reducible rfl
 rotate_left
 ·simp only [Act.put, la_, lz_, ls_, i64_w, i32_w]
  rfl
 refine take_ (i := 17) (N := some 28) (v := ?_) (a' := ?_) #[T_, T_, T_, T_, T_, T_, T_, T_, T_, T_, T_, T_, T_, T_, F_, F_, T_, T_, F_, F_, F_, F_, F_] rfl rfl (take_ofW HT_.out HW_.out (by kernel_rfl)) (fun _ _ _ h => h) (Or.inl ⟨by rfl, ?_⟩) hHeld ?_ ?_
 rotate_left
 ·rintro w' ⟨s0, s1, s2, s3, s4, s5, s6, s7, s8⟩
  go_simp
  with_reducible rfl
 rotate_left
 ·simp only [Act.put, la_, lz_, ls_, i64_w, i32_w]
  rfl
 refine pure_ (i := 18) (N := some 29) (v := ?_) (a' := ?_) #[T_, T_, T_, T_, T_, T_, T_, T_, T_, T_, T_, T_, T_, T_, F_, F_, T_, T_, T_, F_, F_, F_, F_] rfl rfl (any_of HT_.out (by kernel_rfl)) (fun _ _ _ h => h) (Or.inl ⟨by rfl, ?_⟩) ?_ ?_
 rotate_left
 ·intro w'
  go_simp
  with_reducible rfl
 rotate_left
 ·simp only [Act.put, la_, lz_, ls_, i64_w, i32_w]
  rfl
 refine pure_ (i := 19) (N := some 30) (v := ?_) (a' := ?_) #[T_, T_, T_, T_, T_, T_, T_, T_, T_, T_, T_, T_, T_, T_, F_, F_, T_, T_, T_, T_, F_, F_, F_] rfl rfl (any_of HT_.out (by kernel_rfl)) (fun _ _ _ h => h) (Or.inl ⟨by rfl, ?_⟩) ?_ ?_
 rotate_left
 ·intro w'
  go_simp
  with_reducible rfl
 rotate_left
 ·simp only [Act.put, la_, lz_, ls_, i64_w, i32_w]
  rfl
 refine one_ (i := 14) (N := some 25) #[T_, T_, T_, T_, T_, T_, T_, T_, T_, T_, T_, T_, T_, T_, T_, F_, T_, T_, T_, T_, F_, F_, F_] rfl rfl (one_of HT_.out (by kernel_rfl)) (by decide) (fun K hK => ?_)
 refine goes_ Try.func128 (by kernel_rfl) rfl #[.agg #[.int .i64 a0_0, .int .i64 a0_1, .int .i64 a0_2, .int .i64 a0_3, .int .i64 a0_4, .int .i64 a0_5, .bool a0_6, .bool a0_7, .slice A0_8 l0_8.length c0_8]] (by rfl) rfl rfl (by (try simp only [lm_, lo_, ln_]); try rfl) ?_
 with_reducible refine (spec_l4Flags.calls a0_0 a0_1 a0_2 a0_3 a0_4 a0_5 a0_6 a0_7 _ _ l0_8 t270 _ ?side1 ?side2 A5.out).mono ?_
 (case side1 => repeat (first | exact (Kd.C_below HR0_8.out HB.out) | (with_reducible refine Kd.C_alloc ?_ _) | (with_reducible refine Kd.C_drewN ?_ _) | (with_reducible refine Kd.C_drew ?_)))
 (case side2 => exact HC0_8.out)
 rintro e w14 ⟨rfl, hb⟩
 refine ⟨_, rfl, ?_⟩
 have n0_ := mk_ (Kd.R_below (Kd.ur_ HO266.out) hb)
 have n1_ := mk_ (Kd.R_below (Kd.ur_ HO269.out) hb)
 have n2_ := mk_ (blk_below (u_ BK260.out) hb)
 have n3_ := mk_ (below_step (us_ HB.out) hb)
 clear HO266
 clear HO269
 clear BK260
 clear HB
 have HO266 := n0_
 have HO269 := n1_
 have BK260 := n2_
 have HB := n3_
 clear n0_ n1_ n2_ n3_
 (try clear hb)
 (try clear hb2)
 (try clear hk)
 (try clear hi)
 refine hK.out _ _ ⟨(blk_cell BK260.out 0).trans rfl, (blk_cell BK260.out 1).trans rfl, (blk_cell BK260.out 2).trans rfl, (blk_cell BK260.out 3).trans rfl, (blk_cell BK260.out 4).trans rfl, (blk_cell BK260.out 5).trans rfl, (blk_cell BK260.out 6).trans rfl, (blk_cell BK260.out 7).trans rfl, (blk_cell BK260.out 8).trans rfl⟩ (fun hHeld => ?_)
 clear hK K
 refine norm_ (a' := ?_) ?_ ?_
 rotate_left
 ·show Act.put _ (some 25) _ = _
  simp only [Act.put, la_, lz_, ls_, i64_w, i32_w]
  rfl
 refine pure_ (i := 15) (N := some 26) (v := ?_) (a' := ?_) #[T_, T_, T_, T_, T_, T_, T_, T_, T_, T_, T_, T_, T_, T_, T_, T_, T_, T_, T_, T_, F_, F_, F_] rfl rfl (any_of HT_.out (by kernel_rfl)) (fun _ _ _ h => h) (Or.inl ⟨by rfl, ?_⟩) ?_ ?_
 rotate_left
 ·intro w'
  go_simp
  with_reducible rfl
 rotate_left
 ·simp only [Act.put, la_, lz_, ls_, i64_w, i32_w]
  rfl
 refine one_ (i := 20) (N := some 31) #[T_, T_, T_, T_, T_, T_, T_, T_, T_, T_, T_, T_, T_, T_, T_, T_, T_, T_, T_, T_, T_, F_, F_] rfl rfl (one_of HT_.out (by kernel_rfl)) (by decide) (fun K hK => ?_)
 refine Kd.R_lit_step (Kd.int .u8) _ 5 ?hg (N := 31) ?hd (xs := ([(a0_2) % 256, (a0_3) % 256, (a0_4) % 256, (a0_5) % 256, (t270) % 256, ((l0_8.length : Int)) % 256] : List Int)) (inner := [.int .u8 ((a0_2) % 256), .int .u8 ((a0_3) % 256), .int .u8 ((a0_4) % 256), .int .u8 ((a0_5) % 256), .int .u8 ((t270) % 256), .int .u8 (((l0_8.length : Int)) % 256)]) (ok := fun _ => True) (okp := fun _ => True) ?hr ?hp (fun _ hk => hk) trivial (Below.refl _ _) (Nat.le_refl _) (by simp) ?_; (case hd => rfl); (case hg => rfl); (case hr => first | (go_simp; done) | (go_simp; rfl)); (case hp => exact (Reps.one (show Kd.M (Kd.int .u8) _ _ _ ((a0_2) % 256) [.int .u8 ((a0_2) % 256)] from rfl) (Reps.one (show Kd.M (Kd.int .u8) _ _ _ ((a0_3) % 256) [.int .u8 ((a0_3) % 256)] from rfl) (Reps.one (show Kd.M (Kd.int .u8) _ _ _ ((a0_4) % 256) [.int .u8 ((a0_4) % 256)] from rfl) (Reps.one (show Kd.M (Kd.int .u8) _ _ _ ((a0_5) % 256) [.int .u8 ((a0_5) % 256)] from rfl) (Reps.one (show Kd.M (Kd.int .u8) _ _ _ ((t270) % 256) [.int .u8 ((t270) % 256)] from rfl) (Reps.one (show Kd.M (Kd.int .u8) _ _ _ (((l0_8.length : Int)) % 256) [.int .u8 (((l0_8.length : Int)) % 256)] from rfl) (Reps.none _ _))))))))
 intro v272 w15 ho16 hb hg_ hnew_
 clear hg_ hnew_
 (first | rw [← Ny271.out] at ho16 | (simp only [Int.reduceToNat] at ho16; rw [← Ny271.out] at ho16))
 have n0_ := mk_ (Kd.R_elder' (Kd.ur_ HO266.out) (Kd.R_base ho16) hb)
 have n1_ := mk_ (Kd.R_elder' (Kd.ur_ HO269.out) (Kd.R_base ho16) hb)
 have n2_ := mk_ (Kd.R_lower (Kd.R_new' (Kd.R_new' ho16 (Kd.R_lt (Kd.ur_ HO266.out))) (Kd.R_lt (Kd.ur_ HO269.out))) (below_size (us_ HB.out)))
 have n3_ := mk_ (blk_below (u_ BK260.out) hb)
 have n4_ := mk_ (below_step (us_ HB.out) hb)
 clear HO266
 clear HO269
 clear BK260
 clear HB
 have HO266 := n0_
 have HO269 := n1_
 have HO273 := n2_
 have BK260 := n3_
 have HB := n4_
 clear n0_ n1_ n2_ n3_ n4_
 clear hb ho16
 obtain ⟨Ao18, co18, eo18⟩ := Kd.R_slice HO273.out
 (first | subst eo18 | (injection eo18 with f1_ f2_ f3_; have f4_ := f1_.symm; have f5_ := f3_.symm; clear f1_ f2_ f3_; subst f4_; subst f5_))
 refine hK.out _ _ ⟨(blk_cell BK260.out 0).trans rfl, (blk_cell BK260.out 1).trans rfl, (blk_cell BK260.out 2).trans rfl, (blk_cell BK260.out 3).trans rfl, (blk_cell BK260.out 4).trans rfl, (blk_cell BK260.out 5).trans rfl, (blk_cell BK260.out 6).trans rfl, (blk_cell BK260.out 7).trans rfl, (blk_cell BK260.out 8).trans rfl⟩ (fun hHeld => ?_)
 clear hK K
 refine norm_ (a' := ?_) ?_ ?_
 rotate_left
 ·show Act.put _ (some 31) _ = _
  simp only [Act.put, la_, lz_, ls_, i64_w, i32_w]
  rfl
 refine one_ (i := 21) (N := some 32) #[T_, T_, T_, T_, T_, T_, T_, T_, T_, T_, T_, T_, T_, T_, T_, T_, T_, T_, T_, T_, T_, T_, F_] rfl rfl (one_of HT_.out (by kernel_rfl)) (by decide) (fun K hK => ?_)
 refine Kd.R_append_rows_step (Kd.int .u8) (w0 := w) w.heap.size (by rfl) (.tmp 11) (.tmp 31) 22 5 (.int .u8 0) 1 rfl Try.underlying22 info5 rfl (by decide) (by omega) v268 y267 y271 _ _ _ (fun k_ => some k_ ≠ (.slice Ao12 t264.length co12 : Value).ownBlock ∧ some k_ ≠ (.slice Ao18 y271.length co18 : Value).ownBlock) (fun _ => False) rfl rfl ?aO ?aR (fun _ _ h => h) (fun _ h => h.elim) ?aF ?aB ?aS ?aL ?_
 (case aR => repeat (first | exact (Kd.R_reads' HO273.out).2.2 | (with_reducible refine Kd.C_alloc ?_ _) | (with_reducible refine Kd.C_drewN ?_ _) | (with_reducible refine Kd.C_drew ?_)))
 (case aB => exact (us_ HB.out))
 (case aF => exact (fun k_ hk => ⟨Kd.fresh' (Kd.R_lt (Kd.ur_ HO266.out)) k_ hk, Kd.fresh' (Kd.R_lt (Kd.ur_ HO273.out)) k_ hk⟩))
 (case aO => exact (Kd.ur_ HO269.out))
 (case aS => exact (below_size (us_ HB.out)))
 (case aL => have := LMc6.out; omega)
 intro v275 w17 ho hb hg hat
 rw [← Ny274.out] at ho
 have n0_ := mk_ (blk_grown (g := gb260) (o := .cells #[.int .i64 a0_0, .int .i64 a0_1, .int .i64 a0_2, .int .i64 a0_3, .int .i64 a0_4, .int .i64 a0_5, .bool a0_6, .bool a0_7, .slice A0_8 l0_8.length c0_8] 37 (0, 0)) (u_ BK260.out) hg (Kd.R_ne HO269.out BK260.out (by decide)))
 have n1_ := mk_ (Kd.R_after (ok := (fun k_ => some k_ ≠ (.slice Ao18 y271.length co18 : Value).ownBlock)) (by (with_reducible repeat (first | apply Kd.R_alloc | apply Kd.R_drewN | apply Kd.R_drew)); exact Kd.R_mono HO266.out (fun _ hk => ⟨hk.2, hk.1.2⟩)) hg hat)
 have n2_ := mk_ (Kd.R_after (ok := (fun k_ => some k_ ≠ (.slice Ao12 t264.length co12 : Value).ownBlock)) (by (with_reducible repeat (first | apply Kd.R_alloc | apply Kd.R_drewN | apply Kd.R_drew)); exact Kd.R_mono HO273.out (fun _ hk => ⟨hk.1.2, hk.2⟩)) hg hat)
 have n3_ := mk_ (hb)
 have n4_ := mk_ (ho)
 clear BK260
 clear HO266
 clear HO273
 clear HB
 clear HO269
 have BK260 := n0_
 have HO266 := n1_
 have HO273 := n2_
 have HB := n3_
 have HO276 := n4_
 clear n0_ n1_ n2_ n3_ n4_
 clear ho hb hg hat
 refine hK.out _ _ ⟨(blk_cell BK260.out 0).trans rfl, (blk_cell BK260.out 1).trans rfl, (blk_cell BK260.out 2).trans rfl, (blk_cell BK260.out 3).trans rfl, (blk_cell BK260.out 4).trans rfl, (blk_cell BK260.out 5).trans rfl, (blk_cell BK260.out 6).trans rfl, (blk_cell BK260.out 7).trans rfl, (blk_cell BK260.out 8).trans rfl⟩ (fun hHeld => ?_)
 clear hK K
 refine norm_ (a' := ?_) ?_ ?_
 rotate_left
 ·show Act.put _ (some 32) _ = _
  simp only [Act.put, la_, lz_, ls_, i64_w, i32_w]
  rfl
 refine pure_ (i := 22) (N := some 2) (v := ?_) (a' := ?_) #[T_, T_, T_, T_, T_, T_, T_, T_, T_, T_, T_, T_, T_, T_, T_, T_, T_, T_, T_, T_, T_, T_, T_] rfl rfl (any_of HT_.out (by kernel_rfl)) (fun _ _ _ h => h) (Or.inl ⟨by rfl, ?_⟩) ?_ ?_
 rotate_left
 ·intro w'
  go_simp
  with_reducible rfl
 rotate_left
 ·simp only [Act.put, la_, lz_, ls_, i64_w, i32_w]
  rfl
 refine done_ (done_of HT_.out (by kernel_rfl)) ?_
 try go_wp2
 go_ret
 exact ⟨_, by first | rfl | (simp [errW_none, errW_some] <;> rfl) | (simp [*, errW_none, errW_some] <;> rfl), by (with_reducible repeat (first | apply Kd.R_alloc | apply Kd.R_drewN | apply Kd.R_drew)); exact Kd.R_mono HO276.out (fun _ hk => trivial), us_ HB.out⟩

/-! ### spec_l1Sum: function 129 -/
def spec_l1Sum.l0 : Nat → List Int → Int → Int → Option (Int)
 | 0, _, _, _ => none
 | k + 1, x0, x3, x4 => if x4 < (x0.length : Int) then (if (Int.tmod x4 2) = 0 then (if 0 ≤ x4 then (if (wrap64 (x3 + (wrap64 ((wrap64 (rd x0 x4)) * 256)))) > 65535 then (spec_l1Sum.l0 k x0 (wrap64 ((wrap64 (x3 + (wrap64 ((wrap64 (rd x0 x4)) * 256)))) - 65535)) (wrap64 (x4 + 1))) else (spec_l1Sum.l0 k x0 (wrap64 (x3 + (wrap64 ((wrap64 (rd x0 x4)) * 256)))) (wrap64 (x4 + 1)))) else (none)) else (if 0 ≤ x4 then (if (wrap64 (x3 + (wrap64 (rd x0 x4)))) > 65535 then (spec_l1Sum.l0 k x0 (wrap64 ((wrap64 (x3 + (wrap64 (rd x0 x4)))) - 65535)) (wrap64 (x4 + 1))) else (spec_l1Sum.l0 k x0 (wrap64 (x3 + (wrap64 (rd x0 x4)))) (wrap64 (x4 + 1)))) else (none))) else (some x3)
def spec_l1Sum.f (k : Nat) (l0 : List Int) : Option (Int) := spec_l1Sum.l0 k l0 0 0
theorem spec_l1Sum.mono_l : ∀ k, (∀ y0 y1 y2, LeO (spec_l1Sum.l0 k y0 y1 y2) (spec_l1Sum.l0 (k + 1) y0 y1 y2))
 | 0 => fun _ _ _ r h => by simp [spec_l1Sum.l0] at h
 | k + 1 => by
  have ih0 := spec_l1Sum.mono_l k
  ·intro y0 y1 y2
   unfold spec_l1Sum.l0
   repeat' first
   | (with_reducible exact ih0 _ _ _)
   | (with_reducible exact LeO.refl _)
   | (with_reducible exact LeO.none _)
   | (with_reducible refine LeO.ite ?_ ?_)
   | (with_reducible refine LeO.bind ?_ (fun _ => ?_))
   | exact ih0 _ _ _
   | exact LeO.none _
   | refine LeO.ite ?_ ?_
   | refine LeO.bind ?_ (fun _ => ?_)
theorem spec_l1Sum.mono : ∀ a0 k, LeO (spec_l1Sum.f k a0) (spec_l1Sum.f (k + 1) a0) := by
 intro a0 k
 have ih0 := spec_l1Sum.mono_l k
 unfold spec_l1Sum.f
 repeat' first
   | (with_reducible exact ih0 _ _ _)
   | (with_reducible exact LeO.refl _)
   | (with_reducible exact LeO.none _)
   | (with_reducible refine LeO.ite ?_ ?_)
   | (with_reducible refine LeO.bind ?_ (fun _ => ?_))
   | exact ih0 _ _ _
   | exact LeO.none _
   | refine LeO.ite ?_ ?_
   | refine LeO.bind ?_ (fun _ => ?_)
set_option maxHeartbeats 8000000 in
set_option maxRecDepth 100000 in
theorem spec_l1Sum.calls (k : Nat) (A0 : Option Addr) (c0 : Nat) (l0 : List Int) (r : Int) (w : World) (hr0 : Kd.C (Kd.int .u8) w A0 l0.length l0) (hc0 : l0.length ≤ c0) (h : spec_l1Sum.f k l0 = some r) :
  Calls Try.prog 129 #[.slice A0 l0.length c0] w fun e w' => e = .returned (.int .i64 r) ∧ Drawn0 w w' := by
 have HR0 := mk_ hr0
 have HC0 := mk_ hc0
 clear hr0 hc0
 have H : (spec_l1Sum.l0 k l0 0 0) = some r := h
 clear h
 have H' := mk_ H
 clear H
 go_enter Try.func129, Try.ntmps129
 go_wp2
 go_loopg [3, 4] k (fun kq v3 v4 w' => ∃ (x3_1 : Int) (x4_1 : Int), v3 = .int .i64 x3_1 ∧ v4 = .int .i64 x4_1 ∧ Aside0 (spec_l1Sum.l0 kq l0 x3_1 x4_1 = some r) ∧ Aside0 (kq ≤ k) ∧ Drawn0 w w')
 case atStart => exact ⟨(0), (0), (by first | rfl | (simp; done) | (simp [*]; done)), (by first | rfl | (simp; done) | (simp [*]; done)), H', ⟨Nat.le_refl _⟩, by repeat (first | exact Drawn0.refl _ | apply Drawn0.step)⟩
 case round =>
  clear H'
  try clear c1
  obtain ⟨x3_1, x4_1, rfl, rfl, HA, HK1, ⟨m1, rfl⟩⟩ := hrel
  cases gk with
  | zero => exact absurd HA.out (by simp [spec_l1Sum.l0])
  | succ k1 =>
   have H := HA.out
   clear HA
   simp only [spec_l1Sum.l0] at H
   by_cases c2 : x4_1 < (l0.length : Int)
   rotate_left
   ·rw [if_neg c2] at H
    have c2b0 : decide (x4_1 < (l0.length : Int)) = false := decide_eq_false c2
    clear c2
    obtain rfl := Option.some.inj H
    go_wp2
    go_ret
    exact ⟨by first | rfl | (simp; done) | (simp [*]; done), by repeat (first | exact Drawn0.refl _ | apply Drawn0.step)⟩
   rw [if_pos c2] at H
   have c2b0 : decide (x4_1 < (l0.length : Int)) = true := decide_eq_true c2
   clear c2
   by_cases c3 : (Int.tmod x4_1 2) = 0
   rotate_left
   ·rw [if_neg c3] at H
    have c3b0 : ((Int.tmod x4_1 2) == 0) = false := beq_eq_false_iff_ne.mpr c3
    have c3b1 : ((Int.tmod x4_1 2) != 0) = true := bne_iff_ne.mpr c3
    by_cases c6 : 0 ≤ x4_1
    rotate_left
    ·rw [if_neg c6] at H
     exact absurd H (by simp)
    rw [if_pos c6] at H
    have c6b0 : decide (0 ≤ x4_1) = true := decide_eq_true c6
    clear c6
    by_cases c7 : (wrap64 (x3_1 + (wrap64 (rd l0 x4_1)))) > 65535
    ·rw [if_pos c7] at H
     have c7b0 : decide (65535 < (wrap64 (x3_1 + (wrap64 (rd l0 x4_1))))) = true := decide_eq_true c7
     clear c7
     have H' := mk_ H
     clear H
     have p278 : 0 ≤ (x4_1 : Int) := of_decide_eq_true (by first | (with_reducible assumption) | assumption)
     have q278 : x4_1 < (l0.length : Int) := of_decide_eq_true (by first | (with_reducible assumption) | assumption)
     obtain ⟨ad278, e278, hx278_0⟩ := Kd.at_int HR0.out x4_1 p278 q278
     cases e278
     replace p278 := eq_true p278
     replace q278 := eq_true q278
     go_wp2
     go_roundg k1
     case measure => have := HK1.out; omega
     case rel => exact ⟨(wrap64 ((wrap64 (x3_1 + (wrap64 (rd l0 x4_1)))) - 65535)), (wrap64 (x4_1 + 1)), (by first | rfl | (simp; done) | (simp [*]; done)), (by first | rfl | (simp; done) | (simp [*]; done)), H', ⟨by have := HK1.out; omega⟩, by repeat (first | exact Drawn0.refl _ | apply Drawn0.step)⟩
    rw [if_neg c7] at H
    have c7b0 : decide (65535 < (wrap64 (x3_1 + (wrap64 (rd l0 x4_1))))) = false := decide_eq_false c7
    clear c7
    have H' := mk_ H
    clear H
    have p278 : 0 ≤ (x4_1 : Int) := of_decide_eq_true (by first | (with_reducible assumption) | assumption)
    have q278 : x4_1 < (l0.length : Int) := of_decide_eq_true (by first | (with_reducible assumption) | assumption)
    obtain ⟨ad278, e278, hx278_0⟩ := Kd.at_int HR0.out x4_1 p278 q278
    cases e278
    replace p278 := eq_true p278
    replace q278 := eq_true q278
    go_wp2
    go_roundg k1
    case measure => have := HK1.out; omega
    case rel => exact ⟨(wrap64 (x3_1 + (wrap64 (rd l0 x4_1)))), (wrap64 (x4_1 + 1)), (by first | rfl | (simp; done) | (simp [*]; done)), (by first | rfl | (simp; done) | (simp [*]; done)), H', ⟨by have := HK1.out; omega⟩, by repeat (first | exact Drawn0.refl _ | apply Drawn0.step)⟩
   rw [if_pos c3] at H
   have c3b0 : ((Int.tmod x4_1 2) == 0) = true := beq_iff_eq.mpr c3
   have c3b1 : ((Int.tmod x4_1 2) != 0) = false := bne_eq_false_iff_eq.mpr c3
   clear c3
   by_cases c4 : 0 ≤ x4_1
   rotate_left
   ·rw [if_neg c4] at H
    exact absurd H (by simp)
   rw [if_pos c4] at H
   have c4b0 : decide (0 ≤ x4_1) = true := decide_eq_true c4
   clear c4
   by_cases c5 : (wrap64 (x3_1 + (wrap64 ((wrap64 (rd l0 x4_1)) * 256)))) > 65535
   ·rw [if_pos c5] at H
    have c5b0 : decide (65535 < (wrap64 (x3_1 + (wrap64 ((wrap64 (rd l0 x4_1)) * 256))))) = true := decide_eq_true c5
    clear c5
    have H' := mk_ H
    clear H
    have p277 : 0 ≤ (x4_1 : Int) := of_decide_eq_true (by first | (with_reducible assumption) | assumption)
    have q277 : x4_1 < (l0.length : Int) := of_decide_eq_true (by first | (with_reducible assumption) | assumption)
    obtain ⟨ad277, e277, hx277_0⟩ := Kd.at_int HR0.out x4_1 p277 q277
    cases e277
    replace p277 := eq_true p277
    replace q277 := eq_true q277
    go_wp2
    go_roundg k1
    case measure => have := HK1.out; omega
    case rel => exact ⟨(wrap64 ((wrap64 (x3_1 + (wrap64 ((wrap64 (rd l0 x4_1)) * 256)))) - 65535)), (wrap64 (x4_1 + 1)), (by first | rfl | (simp; done) | (simp [*]; done)), (by first | rfl | (simp; done) | (simp [*]; done)), H', ⟨by have := HK1.out; omega⟩, by repeat (first | exact Drawn0.refl _ | apply Drawn0.step)⟩
   rw [if_neg c5] at H
   have c5b0 : decide (65535 < (wrap64 (x3_1 + (wrap64 ((wrap64 (rd l0 x4_1)) * 256))))) = false := decide_eq_false c5
   clear c5
   have H' := mk_ H
   clear H
   have p277 : 0 ≤ (x4_1 : Int) := of_decide_eq_true (by first | (with_reducible assumption) | assumption)
   have q277 : x4_1 < (l0.length : Int) := of_decide_eq_true (by first | (with_reducible assumption) | assumption)
   obtain ⟨ad277, e277, hx277_0⟩ := Kd.at_int HR0.out x4_1 p277 q277
   cases e277
   replace p277 := eq_true p277
   replace q277 := eq_true q277
   go_wp2
   go_roundg k1
   case measure => have := HK1.out; omega
   case rel => exact ⟨(wrap64 (x3_1 + (wrap64 ((wrap64 (rd l0 x4_1)) * 256)))), (wrap64 (x4_1 + 1)), (by first | rfl | (simp; done) | (simp [*]; done)), (by first | rfl | (simp; done) | (simp [*]; done)), H', ⟨by have := HK1.out; omega⟩, by repeat (first | exact Drawn0.refl _ | apply Drawn0.step)⟩

/-! ### spec_SumOf: function 110 -/
def spec_SumOf.f (k : Nat) (l0 : List Int) : Option (Int) := (spec_l1Sum.f k l0).bind fun t279 => (some (wrap64 (65535 - t279)))
theorem spec_SumOf.mono : ∀ a0 k, LeO (spec_SumOf.f k a0) (spec_SumOf.f (k + 1) a0) := by
 intro a0 k
 unfold spec_SumOf.f
 repeat' first
   | (with_reducible exact spec_l1Sum.mono _ _)
   | (with_reducible exact LeO.refl _)
   | (with_reducible exact LeO.none _)
   | (with_reducible refine LeO.ite ?_ ?_)
   | (with_reducible refine LeO.bind ?_ (fun _ => ?_))
   | exact spec_l1Sum.mono _ _
   | exact LeO.none _
   | refine LeO.ite ?_ ?_
   | refine LeO.bind ?_ (fun _ => ?_)
set_option maxHeartbeats 8000000 in
set_option maxRecDepth 100000 in
theorem spec_SumOf.calls (k : Nat) (A0 : Option Addr) (c0 : Nat) (l0 : List Int) (r : Int) (w : World) (hr0 : Kd.C (Kd.int .u8) w A0 l0.length l0) (hc0 : l0.length ≤ c0) (h : spec_SumOf.f k l0 = some r) :
  Calls Try.prog 110 #[.slice A0 l0.length c0] w fun e w' => e = .returned (.int .i64 r) ∧ Drawn0 w w' := by
 have HR0 := mk_ hr0
 have HC0 := mk_ hc0
 clear hr0 hc0
 have H : ((spec_l1Sum.f k l0).bind fun t279 => (some (wrap64 (65535 - t279)))) = some r := h
 clear h
 replace H := Option.bind_eq_some_iff.mp H
 obtain ⟨t279, A20, H⟩ := H
 replace H : (some (wrap64 (65535 - t279))) = some r := H
 have A2 := mk_ A20
 clear A20
 obtain rfl := Option.some.inj H
 go_enter Try.func110, Try.ntmps110
 go_wp2_with (first | ((with_reducible refine gate_callee (f := 129) rfl ?_); refine goesL_ (some 4) rfl rfl Try.func129 (by kernel_rfl) rfl #[.slice A0 l0.length c0] rfl (by (try simp only [lm_, lo_, ln_]); try rfl) ?_; (with_reducible refine (spec_l1Sum.calls k _ _ l0 t279 _ ?side1 ?side2 A2.out).mono ?_); (case side1 => repeat (first | exact HR0.out | (with_reducible refine Kd.C_alloc ?_ _) | (with_reducible refine Kd.C_drewN ?_ _) | (with_reducible refine Kd.C_drew ?_))); (case side2 => exact HC0.out); rintro e w' ⟨rfl, ⟨nd, rfl⟩⟩; refine ⟨_, rfl, ?_⟩))
 go_ret
 exact ⟨by first | rfl | (simp; done) | (simp [*]; done), by repeat (first | exact Drawn0.refl _ | apply Drawn0.step)⟩

end Go.Proofs.Ytkkibccnpkbbjab.MFnExactNoteAbout
