/- Functions that the law FnExactNoteAbout reaches, each with the proof that the machine's call comes to just its answer; no conditions but those that each theorem states. Printed by a program of this session over the kit's print. -/
import Derived.Test.YtkkibccnpkbbjabMFnExactNoteAboutx0
import Derived.Test.YtkkibccnpkbbjabMFnExactNoteAboutx7
namespace Go.Proofs.Ytkkibccnpkbbjab.MFnExactNoteAbout
open Go.RowKit Go.Proofs.YtkkibccnpkbbjabV.PrintWords Go.Proofs.YtkkibccnpkbbjabV.PrintLast Go.Proofs.YtkkibccnpkbbjabV.PrintMore
attribute [local go_sem] max2_int min2_int max_two min_two max_three min_three max_four min_four   -- for this text's walks alone
set_option linter.unusedVariables false
set_option linter.unusedSimpArgs false

/-! ### spec_NoteBytes: function 61 -/
def spec_NoteBytes.f (k : Nat) (a0_0 : Int) (a0_1 : Int) (l0_2 : List Int) : Option (List Int) := (spec_NoteOk.f a0_0 a0_1 l0_2).bind fun t240 => (if t240 = true then ((some (([(a0_0) % 256] : List Int) : List Int)).bind fun y241 => ((spec_BytesOf.f k a0_1 2).bind fun t244 => (if y241.length + t244.length < 140737488355328 then ((some (y241 ++ t244 : List Int)).bind fun y247 => (if y247.length < 140737488355328 then ((some (y247 ++ [((l0_2.length : Int)) % 256] : List Int)).bind fun y250 => (if y250.length + l0_2.length < 140737488355328 then (some (y250 ++ l0_2)) else (none))) else (none))) else (none)))) else (some (([] : List Int))))
theorem spec_NoteBytes.mono : ∀ a0 a1 a2 k, LeO (spec_NoteBytes.f k a0 a1 a2) (spec_NoteBytes.f (k + 1) a0 a1 a2) := by
 intro a0 a1 a2 k
 unfold spec_NoteBytes.f
 repeat' first
   | (with_reducible exact spec_BytesOf.mono _ _ _)
   | (with_reducible exact LeO.refl _)
   | (with_reducible exact LeO.none _)
   | (with_reducible refine LeO.ite ?_ ?_)
   | (with_reducible refine LeO.bind ?_ (fun _ => ?_))
   | exact spec_BytesOf.mono _ _ _
   | exact LeO.none _
   | refine LeO.ite ?_ ?_
   | refine LeO.bind ?_ (fun _ => ?_)
def spec_NoteBytes.T3 : Bool × List (List Nat × List Nat) := (true, [([], []), ([0], [0]), ([1], [1]), ([2], [2]), ([], []), ([4], [4]), ([5], [5]), ([3, 6, 6], [3, 6]), ([7, 7, 0, 1, 2, 3, 4, 5, 6, 7], [7])])
def spec_NoteBytes.B3 : List Nat := [0, 1, 3, 7, 0, 16, 48, 127, 255]
theorem spec_NoteBytes.tab3 : rtab .any (opsOf Try.f61 3) = spec_NoteBytes.T3 := by kernel_rfl
theorem spec_NoteBytes.bits3 : waitsOk spec_NoteBytes.T3.2 spec_NoteBytes.B3 = true := by kernel_rfl
def spec_NoteBytes.T4 : Bool × List (List Nat × List Nat) := (true, [([], []), ([], []), ([1], [1]), ([2], [2]), ([3], [3]), ([4], [4]), ([0, 5], [0, 5]), ([], []), ([7], [7]), ([6, 8, 6], [6, 8]), ([9, 9, 0, 1, 2, 3, 4, 5, 6, 7, 8, 9], [9])])
def spec_NoteBytes.B4 : List Nat := [0, 0, 2, 6, 14, 30, 63, 0, 128, 511, 1023]
theorem spec_NoteBytes.tab4 : rtab .any (opsOf Try.f61 4) = spec_NoteBytes.T4 := by kernel_rfl
theorem spec_NoteBytes.bits4 : waitsOk spec_NoteBytes.T4.2 spec_NoteBytes.B4 = true := by kernel_rfl
set_option maxHeartbeats 8000000 in
set_option maxRecDepth 100000 in
theorem spec_NoteBytes.calls (k : Nat) (a0_0 : Int) (a0_1 : Int) (A0_2 : Option Addr) (c0_2 : Nat) (l0_2 : List Int) (r : List Int) (w : World) (hr0_2 : Kd.C (Kd.int .u8) w A0_2 l0_2.length l0_2) (hc0_2 : l0_2.length ≤ c0_2) (h : spec_NoteBytes.f k a0_0 a0_1 l0_2 = some r) :
  Calls Try.prog 61 #[.agg #[.int .i64 a0_0, .int .i64 a0_1, .slice A0_2 l0_2.length c0_2]] w fun e w' => ∃ v0_ : Value, e = .returned (v0_) ∧ Kd.R (Kd.int .u8) 5 w' w.heap.size (fun _ => True) v0_ r ∧ Below w.heap.size w w' := by
 have hu44 := Try.underlying44
 have HR0_2 := mk_ hr0_2
 have HC0_2 := mk_ hc0_2
 clear hr0_2 hc0_2
 have HB := mk_ (Below.refl w.heap.size w)
 have H := h
 unfold spec_NoteBytes.f at H
 clear h
 replace H := Option.bind_eq_some_iff.mp H
 obtain ⟨t240, A20, H⟩ := H
 (try dsimp only at H)
 have A2 := mk_ A20
 clear A20
 by_cases c3 : t240 = true
 rotate_left
 ·replace c3 := Bool.eq_false_iff.mpr c3
  subst c3
  have H1 : (some (([] : List Int))) = some r := by rw [if_neg (show ¬ (false = true) by decide)] at H; exact H
  clear H
  have H := H1
  clear H1
  obtain ⟨y256, hy256⟩ : ∃ y_ : List Int, y_ = (([] : List Int)) := ⟨_, rfl⟩
  replace H : (some y256) = some r := by first | (rw [hy256]; with_reducible exact H) | (have H2_ := (Option.bind_some _ _).symm.trans H; rw [hy256]; with_reducible exact H2_) | (have H2_ := (Option.bind_some _ _).symm.trans H; with_reducible exact H2_) | with_reducible exact H | (rw [hy256]; exact H) | exact H
  have Ny256 := mk_ hy256
  clear hy256
  obtain rfl := Option.some.inj H
  go_enter Try.func61, Try.ntmps61
  go_wp2_with (first | ((with_reducible refine gate_dst (N := 1) rfl ?_); refine box_event ?hg (N := 1) ?hd (cs := #[.int .i64 a0_0, .int .i64 a0_1, .slice A0_2 l0_2.length c0_2]) (t := 44) ?hr ?_; (case hd => rfl); (case hg => rfl); (case hr => first | (go_simp; done) | (go_simp; rfl)); intro gb239 hg w21 hbox hb; have n0_ := mk_ (below_step (ub_ HB.out) hb); have BK239 := mk_ (hbox); have GW239 := mk_ ((by rw [hg]; exact (below_size (ub_ HB.out)) : w.heap.size ≤ gb239)); have GE239 := ge_ ((by rw [hg]; exact (below_size (ub_ HB.out)) : w.heap.size ≤ gb239)); replace HB := n0_; clear n0_; clear hb hbox hg; obtain ⟨_, _, _, _, _, _⟩ := cells3_ BK239.out) | ((with_reducible refine gate_callee (f := 102) rfl ?_); refine goesL_ (some 5) rfl rfl Try.func102 (by kernel_rfl) rfl #[.agg #[.int .i64 a0_0, .int .i64 a0_1, .slice A0_2 l0_2.length c0_2]] rfl (by (try simp only [lm_, lo_, ln_]); try rfl) ?_; (with_reducible refine (spec_NoteOk.calls a0_0 a0_1 _ _ l0_2 false _ ?side1 ?side2 A2.out).mono ?_); (case side1 => repeat (first | exact (Kd.C_below HR0_2.out HB.out) | (with_reducible refine Kd.C_alloc ?_ _) | (with_reducible refine Kd.C_drewN ?_ _) | (with_reducible refine Kd.C_drew ?_))); (case side2 => exact HC0_2.out); rintro e w23 ⟨rfl, hb⟩; refine ⟨_, rfl, ?_⟩; replace BK239 := mk_ (blk_below (u_ BK239.out) hb); replace HB := mk_ (below_step (us_ HB.out) hb)) | ((with_reducible refine gate_dst (N := 7) rfl ?_); refine Kd.R_lit (Kd.int .u8) _ 5 ?hg (N := 7) ?hd (xs := ([] : List Int)) (inner := []) (ok := fun _ => True) (okp := fun _ => True) ?hr ?hp (fun _ hk => hk) trivial (Below.refl _ _) (Nat.le_refl _) (by simp) ?_; (case hd => rfl); (case hg => rfl); (case hr => first | (go_simp; done) | (go_simp; rfl)); (case hp => exact (Reps.none _ _)); intro v257 w24 ho25 hb hg_ hnew_; clear hg_ hnew_; (first | rw [← Ny256.out] at ho25 | (simp only [Int.reduceToNat] at ho25; rw [← Ny256.out] at ho25)); have HO258 := mk_ (Kd.R_lower ho25 (below_size (us_ HB.out))); replace BK239 := mk_ (blk_below (u_ BK239.out) hb); replace HB := mk_ (below_step (us_ HB.out) hb); clear hb ho25))
  go_ret
  exact ⟨_, by first | rfl | (simp [errW_none, errW_some] <;> rfl) | (simp [*, errW_none, errW_some] <;> rfl), by (with_reducible repeat (first | apply Kd.R_alloc | apply Kd.R_drewN | apply Kd.R_drew)); exact HO258.out, us_ HB.out⟩
 subst c3
 rw [if_pos rfl] at H
 obtain ⟨y241, hy241⟩ : ∃ y_ : List Int, y_ = (([(a0_0) % 256] : List Int)) := ⟨_, rfl⟩
 replace H : ((spec_BytesOf.f k a0_1 2).bind fun t244 => (if y241.length + t244.length < 140737488355328 then ((some (y241 ++ t244 : List Int)).bind fun y247 => (if y247.length < 140737488355328 then ((some (y247 ++ [((l0_2.length : Int)) % 256] : List Int)).bind fun y250 => (if y250.length + l0_2.length < 140737488355328 then (some (y250 ++ l0_2)) else (none))) else (none))) else (none))) = some r := by first | (rw [hy241]; with_reducible exact H) | (have H2_ := (Option.bind_some _ _).symm.trans H; rw [hy241]; with_reducible exact H2_) | (have H2_ := (Option.bind_some _ _).symm.trans H; with_reducible exact H2_) | with_reducible exact H | (rw [hy241]; exact H) | exact H
 have Ny241 := mk_ hy241
 clear hy241
 replace H := Option.bind_eq_some_iff.mp H
 obtain ⟨t244, A40, H⟩ := H
 (try dsimp only at H)
 have A4 := mk_ A40
 clear A40
 by_cases c5 : y241.length + t244.length < 140737488355328
 rotate_left
 ·rw [if_neg c5] at H
  exact absurd H (by simp)
 rw [if_pos c5] at H
 have LMc5 := mk_ c5
 clear c5
 obtain ⟨y247, hy247⟩ : ∃ y_ : List Int, y_ = (y241 ++ t244) := ⟨_, rfl⟩
 replace H : (if y247.length < 140737488355328 then ((some (y247 ++ [((l0_2.length : Int)) % 256] : List Int)).bind fun y250 => (if y250.length + l0_2.length < 140737488355328 then (some (y250 ++ l0_2)) else (none))) else (none)) = some r := by first | (rw [hy247]; with_reducible exact H) | (have H2_ := (Option.bind_some _ _).symm.trans H; rw [hy247]; with_reducible exact H2_) | (have H2_ := (Option.bind_some _ _).symm.trans H; with_reducible exact H2_) | with_reducible exact H | (rw [hy247]; exact H) | exact H
 have Ny247 := mk_ hy247
 clear hy247
 by_cases c6 : y247.length < 140737488355328
 rotate_left
 ·rw [if_neg c6] at H
  exact absurd H (by simp)
 rw [if_pos c6] at H
 have LMc6 := mk_ c6
 clear c6
 obtain ⟨y250, hy250⟩ : ∃ y_ : List Int, y_ = (y247 ++ [((l0_2.length : Int)) % 256]) := ⟨_, rfl⟩
 replace H : (if y250.length + l0_2.length < 140737488355328 then (some (y250 ++ l0_2)) else (none)) = some r := by first | (rw [hy250]; with_reducible exact H) | (have H2_ := (Option.bind_some _ _).symm.trans H; rw [hy250]; with_reducible exact H2_) | (have H2_ := (Option.bind_some _ _).symm.trans H; with_reducible exact H2_) | with_reducible exact H | (rw [hy250]; exact H) | exact H
 have Ny250 := mk_ hy250
 clear hy250
 by_cases c7 : y250.length + l0_2.length < 140737488355328
 rotate_left
 ·rw [if_neg c7] at H
  exact absurd H (by simp)
 rw [if_pos c7] at H
 have LMc7 := mk_ c7
 clear c7
 obtain ⟨y253, hy253⟩ : ∃ y_ : List Int, y_ = (y250 ++ l0_2) := ⟨_, rfl⟩
 replace H : (some y253) = some r := by first | (rw [hy253]; with_reducible exact H) | (have H2_ := (Option.bind_some _ _).symm.trans H; rw [hy253]; with_reducible exact H2_) | (have H2_ := (Option.bind_some _ _).symm.trans H; with_reducible exact H2_) | with_reducible exact H | (rw [hy253]; exact H) | exact H
 have Ny253 := mk_ hy253
 clear hy253
 obtain rfl := Option.some.inj H
 go_enter Try.func61, Try.ntmps61
 try go_wp2_with (first | ((with_reducible refine gate_dst (N := 1) rfl ?_); refine box_event ?hg (N := 1) ?hd (cs := #[.int .i64 a0_0, .int .i64 a0_1, .slice A0_2 l0_2.length c0_2]) (t := 44) ?hr ?_; (case hd => rfl); (case hg => rfl); (case hr => first | (go_simp; done) | (go_simp; rfl)); intro gb239 hg w8 hbox hb; have n0_ := mk_ (below_step (ub_ HB.out) hb); have BK239 := mk_ (hbox); have GW239 := mk_ ((by rw [hg]; exact (below_size (ub_ HB.out)) : w.heap.size ≤ gb239)); have GE239 := ge_ ((by rw [hg]; exact (below_size (ub_ HB.out)) : w.heap.size ≤ gb239)); replace HB := n0_; clear n0_; clear hb hbox hg; obtain ⟨_, _, _, _, _, _⟩ := cells3_ BK239.out) | ((with_reducible refine gate_callee (f := 102) rfl ?_); refine goesL_ (some 5) rfl rfl Try.func102 (by kernel_rfl) rfl #[.agg #[.int .i64 a0_0, .int .i64 a0_1, .slice A0_2 l0_2.length c0_2]] rfl (by (try simp only [lm_, lo_, ln_]); try rfl) ?_; (with_reducible refine (spec_NoteOk.calls a0_0 a0_1 _ _ l0_2 true _ ?side1 ?side2 A2.out).mono ?_); (case side1 => repeat (first | exact (Kd.C_below HR0_2.out HB.out) | (with_reducible refine Kd.C_alloc ?_ _) | (with_reducible refine Kd.C_drewN ?_ _) | (with_reducible refine Kd.C_drew ?_))); (case side2 => exact HC0_2.out); rintro e w10 ⟨rfl, hb⟩; refine ⟨_, rfl, ?_⟩; replace BK239 := mk_ (blk_below (u_ BK239.out) hb); replace HB := mk_ (below_step (us_ HB.out) hb)))
 have n0_ := mk_ (blk_drew BK239.out)
 have n1_ := mk_ (below_drew1 HB.out)
 clear BK239
 clear HB
 have BK239 := n0_
 have HB := n1_
 clear n0_ n1_
 refine start_ (n := 9) (S := fun w' => w'.cell? ⟨gb239, 0, none⟩ = some (.int .i64 a0_0) ∧ w'.cell? ⟨gb239, 1, none⟩ = some (.int .i64 a0_1) ∧ w'.cell? ⟨gb239, 2, none⟩ = some (.slice A0_2 l0_2.length c0_2)) (ds := []) #[F_, F_, F_, F_, F_, F_, F_, F_, F_] (by kernel_rfl) rfl rfl ⟨(blk_cell BK239.out 0).trans rfl, (blk_cell BK239.out 1).trans rfl, (blk_cell BK239.out 2).trans rfl⟩ (fun hHeld => ?_); refine with_tabW spec_NoteBytes.tab3 spec_NoteBytes.bits3 (fun HT_ HW_ => ?_)
 generalize w10.drew = w11 at BK239 HB hHeld ⊢
 refine pure_ (i := 0) (N := some 8) (v := ?_) (a' := ?_) #[T_, F_, F_, F_, F_, F_, F_, F_, F_] rfl rfl (any_of HT_.out (by kernel_rfl)) (fun _ _ _ h => h) (Or.inl ⟨by rfl, ?_⟩) ?_ ?_
 rotate_left
 ·intro w'
  go_simp
  with_reducible rfl
 rotate_left
 ·simp only [Act.put, la_, lz_, ls_, i64_w, i32_w]
  rfl
 refine pure_ (i := 4) (N := some 12) (v := ?_) (a' := ?_) #[T_, F_, F_, F_, T_, F_, F_, F_, F_] rfl rfl (any_of HT_.out (by kernel_rfl)) (fun _ _ _ h => h) (Or.inl ⟨by rfl, ?_⟩) ?_ ?_
 rotate_left
 ·intro w'
  go_simp
  with_reducible rfl
 rotate_left
 ·simp only [Act.put, la_, lz_, ls_, i64_w, i32_w]
  rfl
 refine take_ (i := 1) (N := some 9) (v := ?_) (a' := ?_) #[T_, T_, F_, F_, T_, F_, F_, F_, F_] rfl rfl (take_ofW HT_.out HW_.out (by kernel_rfl)) (fun _ _ _ h => h) (Or.inl ⟨by rfl, ?_⟩) hHeld ?_ ?_
 rotate_left
 ·rintro w' ⟨s0, s1, s2⟩
  go_simp
  with_reducible rfl
 rotate_left
 ·simp only [Act.put, la_, lz_, ls_, i64_w, i32_w]
  rfl
 refine pure_ (i := 2) (N := some 10) (v := ?_) (a' := ?_) #[T_, T_, T_, F_, T_, F_, F_, F_, F_] rfl rfl (any_of HT_.out (by kernel_rfl)) (fun _ _ _ h => h) (Or.inl ⟨by rfl, ?_⟩) ?_ ?_
 rotate_left
 ·intro w'
  go_simp
  with_reducible rfl
 rotate_left
 ·simp only [Act.put, la_, lz_, ls_, i64_w, i32_w]
  rfl
 refine take_ (i := 5) (N := some 13) (v := ?_) (a' := ?_) #[T_, T_, T_, F_, T_, T_, F_, F_, F_] rfl rfl (take_ofW HT_.out HW_.out (by kernel_rfl)) (fun _ _ _ h => h) (Or.inl ⟨by rfl, ?_⟩) hHeld ?_ ?_
 rotate_left
 ·rintro w' ⟨s0, s1, s2⟩
  go_simp
  with_reducible rfl
 rotate_left
 ·simp only [Act.put, la_, lz_, ls_, i64_w, i32_w]
  rfl
 refine join_ (σ := Value × Value) 2 #[T_, T_, T_, T_, T_, T_, T_, F_, F_] (fun s_ => [(11, s_.1), (14, s_.2)]) (fun s_ w' => (w'.cell? ⟨gb239, 0, none⟩ = some (.int .i64 a0_0) ∧ w'.cell? ⟨gb239, 1, none⟩ = some (.int .i64 a0_1) ∧ w'.cell? ⟨gb239, 2, none⟩ = some (.slice A0_2 l0_2.length c0_2)) ∧ (Kd.R (Kd.int .u8) 5 w' w.heap.size (fun k_ => some k_ ≠ (s_.2 : Value).ownBlock) s_.1 y241) ∧ (Kd.R (Kd.int .u8) 5 w' w.heap.size (fun k_ => some k_ ≠ (s_.1 : Value).ownBlock) s_.2 t244) ∧ (w'.heap[gb239]? = some (.cells #[.int .i64 a0_0, .int .i64 a0_1, .slice A0_2 l0_2.length c0_2] 44 (0, 0))) ∧ (Below w.heap.size w w')) ?_ ?_
 rotate_left
 ·intro hCont
  refine two_ (i := 3) (j := 6) (Ni := some 11) (Nj := some 14) #[T_, T_, T_, T_, T_, T_, F_, F_, F_] #[T_, T_, T_, F_, T_, T_, T_, F_, F_] rfl rfl rfl rfl (two_of HT_.out (by kernel_rfl)) (by decide) (by decide) (fun K hK => ?_) (fun K hK => ?_)
  ·skip
   refine Kd.R_lit_step (Kd.int .u8) _ 5 ?hg (N := 11) ?hd (xs := ([(a0_0) % 256] : List Int)) (inner := [.int .u8 ((a0_0) % 256)]) (ok := fun _ => True) (okp := fun _ => True) ?hr ?hp (fun _ hk => hk) trivial (Below.refl _ _) (Nat.le_refl _) (by simp) ?_; (case hd => rfl); (case hg => rfl); (case hr => first | (go_simp; done) | (go_simp; rfl)); (case hp => exact (Reps.one (show Kd.M (Kd.int .u8) _ _ _ ((a0_0) % 256) [.int .u8 ((a0_0) % 256)] from rfl) (Reps.none _ _)))
   intro v242 w12 ho13 hb hg_ hnew_
   clear hg_ hnew_
   (first | rw [← Ny241.out] at ho13 | (simp only [Int.reduceToNat] at ho13; rw [← Ny241.out] at ho13))
   have n0_ := mk_ (Kd.R_lower ho13 (below_size (us_ HB.out)))
   have n1_ := mk_ (blk_below (u_ BK239.out) hb)
   have n2_ := mk_ (below_step (us_ HB.out) hb)
   clear BK239
   clear HB
   have HO243 := n0_
   have BK239 := n1_
   have HB := n2_
   clear n0_ n1_ n2_
   clear hb ho13
   refine hK.out _ _ ⟨(blk_cell BK239.out 0).trans rfl, (blk_cell BK239.out 1).trans rfl, (blk_cell BK239.out 2).trans rfl⟩ (fun hHeld => ?_)
   clear hK K
   refine norm_ (a' := ?_) ?_ ?_
   rotate_left
   ·show Act.put _ (some 11) _ = _
    simp only [Act.put, la_, lz_, ls_, i64_w, i32_w]
    rfl
   refine one_ (i := 6) (N := some 14) #[T_, T_, T_, T_, T_, T_, T_, F_, F_] rfl rfl (one_of HT_.out (by kernel_rfl)) (by decide) (fun K hK => ?_)
   refine goes_ Try.func103 (by kernel_rfl) rfl #[.int .i64 a0_1, .int .i64 2] (by rfl) rfl rfl (by (try simp only [lm_, lo_, ln_]); try rfl) ?_
   with_reducible refine (spec_BytesOf.calls k a0_1 2 t244 _ A4.out).mono ?_
   rintro e w14 ⟨v245, rfl, ho0, hb⟩
   refine ⟨_, rfl, ?_⟩
   have n0_ := mk_ (Kd.R_elder' (Kd.ur_ HO243.out) (Kd.R_base ho0) hb)
   have n1_ := mk_ (Kd.R_lower (Kd.R_new' ho0 (Kd.R_lt (Kd.ur_ HO243.out))) (below_size (us_ HB.out)))
   have n2_ := mk_ (blk_below (u_ BK239.out) hb)
   have n3_ := mk_ (below_step (us_ HB.out) hb)
   clear HO243
   clear BK239
   clear HB
   have HO243 := n0_
   have HO246 := n1_
   have BK239 := n2_
   have HB := n3_
   clear n0_ n1_ n2_ n3_
   (try clear hb)
   (try clear hb2)
   (try clear hk)
   (try clear hi)
   (try clear ho0)
   refine hK.out _ _ ⟨(blk_cell BK239.out 0).trans rfl, (blk_cell BK239.out 1).trans rfl, (blk_cell BK239.out 2).trans rfl⟩ (fun hHeld => ?_)
   clear hK K
   refine norm_ (a' := ?_) ?_ ?_
   rotate_left
   ·show Act.put _ (some 14) _ = _
    simp only [Act.put, la_, lz_, ls_, i64_w, i32_w]
    rfl
   exact norm_ (by simp only [putAll, Act.put, la_, lz_, ls_]) (hCont (v242, v245) _ ⟨hHeld, (by (with_reducible repeat (first | apply Kd.R_alloc | apply Kd.R_drewN | apply Kd.R_drew)); exact Kd.R_mono HO243.out (fun _ hk => hk.2)), (by (with_reducible repeat (first | apply Kd.R_alloc | apply Kd.R_drewN | apply Kd.R_drew)); exact Kd.R_mono HO246.out (fun _ hk => hk.2)), (u_ BK239.out), (us_ HB.out)⟩)
  skip
  refine goes_ Try.func103 (by kernel_rfl) rfl #[.int .i64 a0_1, .int .i64 2] (by rfl) rfl rfl (by (try simp only [lm_, lo_, ln_]); try rfl) ?_
  with_reducible refine (spec_BytesOf.calls k a0_1 2 t244 _ A4.out).mono ?_
  rintro e w12 ⟨v245, rfl, ho0, hb⟩
  refine ⟨_, rfl, ?_⟩
  have n0_ := mk_ (Kd.R_lower ho0 (below_size (us_ HB.out)))
  have n1_ := mk_ (blk_below (u_ BK239.out) hb)
  have n2_ := mk_ (below_step (us_ HB.out) hb)
  clear BK239
  clear HB
  have HO246 := n0_
  have BK239 := n1_
  have HB := n2_
  clear n0_ n1_ n2_
  (try clear hb)
  (try clear hb2)
  (try clear hk)
  (try clear hi)
  (try clear ho0)
  refine hK.out _ _ ⟨(blk_cell BK239.out 0).trans rfl, (blk_cell BK239.out 1).trans rfl, (blk_cell BK239.out 2).trans rfl⟩ (fun hHeld => ?_)
  clear hK K
  refine norm_ (a' := ?_) ?_ ?_
  rotate_left
  ·show Act.put _ (some 14) _ = _
   simp only [Act.put, la_, lz_, ls_, i64_w, i32_w]
   rfl
  refine one_ (i := 3) (N := some 11) #[T_, T_, T_, T_, T_, T_, T_, F_, F_] rfl rfl (one_of HT_.out (by kernel_rfl)) (by decide) (fun K hK => ?_)
  refine Kd.R_lit_step (Kd.int .u8) _ 5 ?hg (N := 11) ?hd (xs := ([(a0_0) % 256] : List Int)) (inner := [.int .u8 ((a0_0) % 256)]) (ok := fun _ => True) (okp := fun _ => True) ?hr ?hp (fun _ hk => hk) trivial (Below.refl _ _) (Nat.le_refl _) (by simp) ?_; (case hd => rfl); (case hg => rfl); (case hr => first | (go_simp; done) | (go_simp; rfl)); (case hp => exact (Reps.one (show Kd.M (Kd.int .u8) _ _ _ ((a0_0) % 256) [.int .u8 ((a0_0) % 256)] from rfl) (Reps.none _ _)))
  intro v242 w13 ho14 hb hg_ hnew_
  clear hg_ hnew_
  (first | rw [← Ny241.out] at ho14 | (simp only [Int.reduceToNat] at ho14; rw [← Ny241.out] at ho14))
  have n0_ := mk_ (Kd.R_elder' (Kd.ur_ HO246.out) (Kd.R_base ho14) hb)
  have n1_ := mk_ (Kd.R_lower (Kd.R_new' ho14 (Kd.R_lt (Kd.ur_ HO246.out))) (below_size (us_ HB.out)))
  have n2_ := mk_ (blk_below (u_ BK239.out) hb)
  have n3_ := mk_ (below_step (us_ HB.out) hb)
  clear HO246
  clear BK239
  clear HB
  have HO246 := n0_
  have HO243 := n1_
  have BK239 := n2_
  have HB := n3_
  clear n0_ n1_ n2_ n3_
  clear hb ho14
  refine hK.out _ _ ⟨(blk_cell BK239.out 0).trans rfl, (blk_cell BK239.out 1).trans rfl, (blk_cell BK239.out 2).trans rfl⟩ (fun hHeld => ?_)
  clear hK K
  refine norm_ (a' := ?_) ?_ ?_
  rotate_left
  ·show Act.put _ (some 11) _ = _
   simp only [Act.put, la_, lz_, ls_, i64_w, i32_w]
   rfl
  exact norm_ (by simp only [putAll, Act.put, la_, lz_, ls_]) (hCont (v242, v245) _ ⟨hHeld, (by (with_reducible repeat (first | apply Kd.R_alloc | apply Kd.R_drewN | apply Kd.R_drew)); exact Kd.R_mono HO243.out (fun _ hk => hk.2)), (by (with_reducible repeat (first | apply Kd.R_alloc | apply Kd.R_drewN | apply Kd.R_drew)); exact Kd.R_mono HO246.out (fun _ hk => hk.2)), (u_ BK239.out), (us_ HB.out)⟩)
 rintro ⟨v242, v245⟩ w15 ⟨hS_, h0_, h1_, h2_, h3_⟩
 have n0_ : Aside0 (Kd.R (Kd.int .u8) 5 w15 w.heap.size (fun k_ => some k_ ≠ (v245 : Value).ownBlock) v242 y241) := ⟨h0_⟩
 have n1_ : Aside0 (Kd.R (Kd.int .u8) 5 w15 w.heap.size (fun k_ => some k_ ≠ (v242 : Value).ownBlock) v245 t244) := ⟨h1_⟩
 have n2_ : Aside0 (w15.heap[gb239]? = some (.cells #[.int .i64 a0_0, .int .i64 a0_1, .slice A0_2 l0_2.length c0_2] 44 (0, 0))) := ⟨h2_⟩
 have n3_ : Aside0 (Below w.heap.size w w15) := ⟨h3_⟩
 clear BK239
 clear HB
 clear h0_ h1_ h2_ h3_
 have HO243 := n0_
 have HO246 := n1_
 have BK239 := n2_
 have HB := n3_
 clear n0_ n1_ n2_ n3_
 have hHeld : w15.cell? ⟨gb239, 0, none⟩ = some (.int .i64 a0_0) ∧ w15.cell? ⟨gb239, 1, none⟩ = some (.int .i64 a0_1) ∧ w15.cell? ⟨gb239, 2, none⟩ = some (.slice A0_2 l0_2.length c0_2) := hS_
 obtain ⟨Ao17, co17, eo17⟩ := Kd.R_slice HO246.out
 (first | subst eo17 | (injection eo17 with f1_ f2_ f3_; have f4_ := f1_.symm; have f5_ := f3_.symm; clear f1_ f2_ f3_; subst f4_; subst f5_))
 refine norm_ (a' := ?_) ?_ ?_
 rotate_left
 ·simp only [putAll, Act.put, la_, lz_, ls_]
  rfl
 refine one_ (i := 7) (N := some 15) #[T_, T_, T_, T_, T_, T_, T_, T_, F_] rfl rfl (one_of HT_.out (by kernel_rfl)) (by decide) (fun K hK => ?_)
 refine Kd.R_append_rows_step (Kd.int .u8) (w0 := w) w.heap.size (by rfl) (.tmp 11) (.tmp 14) 22 5 (.int .u8 0) 1 rfl Try.underlying22 info5 rfl (by decide) (by omega) v242 y241 t244 _ _ _ (fun k_ => some k_ ≠ (.slice Ao17 t244.length co17 : Value).ownBlock) (fun _ => False) rfl rfl ?aO ?aR (fun _ _ h => h) (fun _ h => h.elim) ?aF ?aB ?aS ?aL ?_
 (case aR => repeat (first | exact (Kd.R_reads' HO246.out).2.2 | (with_reducible refine Kd.C_alloc ?_ _) | (with_reducible refine Kd.C_drewN ?_ _) | (with_reducible refine Kd.C_drew ?_)))
 (case aB => exact (us_ HB.out))
 (case aF => exact (fun k_ hk => Kd.fresh' (Kd.R_lt (Kd.ur_ HO246.out)) k_ hk))
 (case aO => exact (Kd.ur_ HO243.out))
 (case aS => exact (below_size (us_ HB.out)))
 (case aL => have := LMc5.out; omega)
 intro v248 w16 ho hb hg hat
 rw [← Ny247.out] at ho
 have n0_ := mk_ (blk_grown (g := gb239) (o := .cells #[.int .i64 a0_0, .int .i64 a0_1, .slice A0_2 l0_2.length c0_2] 44 (0, 0)) (u_ BK239.out) hg (Kd.R_ne HO243.out BK239.out (by decide)))
 have n1_ := mk_ (Kd.R_after (ok := (fun _ => True)) (by (with_reducible repeat (first | apply Kd.R_alloc | apply Kd.R_drewN | apply Kd.R_drew)); exact Kd.R_mono HO246.out (fun _ hk => ⟨trivial, hk⟩)) hg hat)
 have n2_ := mk_ (hb)
 have n3_ := mk_ (ho)
 clear BK239
 clear HO246
 clear HB
 clear HO243
 have BK239 := n0_
 have HO246 := n1_
 have HB := n2_
 have HO249 := n3_
 clear n0_ n1_ n2_ n3_
 clear ho hb hg hat
 refine hK.out _ _ ⟨(blk_cell BK239.out 0).trans rfl, (blk_cell BK239.out 1).trans rfl, (blk_cell BK239.out 2).trans rfl⟩ (fun hHeld => ?_)
 clear hK K
 refine norm_ (a' := ?_) ?_ ?_
 rotate_left
 ·show Act.put _ (some 15) _ = _
  simp only [Act.put, la_, lz_, ls_, i64_w, i32_w]
  rfl
 refine pure_ (i := 8) (N := some 3) (v := ?_) (a' := ?_) #[T_, T_, T_, T_, T_, T_, T_, T_, T_] rfl rfl (any_of HT_.out (by kernel_rfl)) (fun _ _ _ h => h) (Or.inl ⟨by rfl, ?_⟩) ?_ ?_
 rotate_left
 ·intro w'
  go_simp
  with_reducible rfl
 rotate_left
 ·simp only [Act.put, la_, lz_, ls_, i64_w, i32_w]
  rfl
 refine done_ (done_of HT_.out (by kernel_rfl)) ?_
 try go_wp2
 have n0_ := mk_ (Kd.R_drew HO246.out)
 have n1_ := mk_ (Kd.R_drew HO249.out)
 have n2_ := mk_ (blk_drew BK239.out)
 have n3_ := mk_ (below_drew1 HB.out)
 clear HO246
 clear HO249
 clear BK239
 clear HB
 have HO246 := n0_
 have HO249 := n1_
 have BK239 := n2_
 have HB := n3_
 clear n0_ n1_ n2_ n3_
 refine start_ (n := 11) (S := fun w' => w'.cell? ⟨gb239, 0, none⟩ = some (.int .i64 a0_0) ∧ w'.cell? ⟨gb239, 1, none⟩ = some (.int .i64 a0_1) ∧ w'.cell? ⟨gb239, 2, none⟩ = some (.slice A0_2 l0_2.length c0_2)) (ds := []) #[F_, F_, F_, F_, F_, F_, F_, F_, F_, F_, F_] (by kernel_rfl) rfl rfl ⟨(blk_cell BK239.out 0).trans rfl, (blk_cell BK239.out 1).trans rfl, (blk_cell BK239.out 2).trans rfl⟩ (fun hHeld => ?_); refine with_tabW spec_NoteBytes.tab4 spec_NoteBytes.bits4 (fun HT_ HW_ => ?_)
 generalize w16.drew = w18 at HO246 HO249 BK239 HB hHeld ⊢
 refine pure_ (i := 0) (N := some 16) (v := ?_) (a' := ?_) #[T_, F_, F_, F_, F_, F_, F_, F_, F_, F_, F_] rfl rfl (any_of HT_.out (by kernel_rfl)) (fun _ _ _ h => h) (Or.inl ⟨by rfl, ?_⟩) ?_ ?_
 rotate_left
 ·intro w'
  go_simp
  with_reducible rfl
 rotate_left
 ·simp only [Act.put, la_, lz_, ls_, i64_w, i32_w]
  rfl
 refine pure_ (i := 1) (N := some 17) (v := ?_) (a' := ?_) #[T_, T_, F_, F_, F_, F_, F_, F_, F_, F_, F_] rfl rfl (any_of HT_.out (by kernel_rfl)) (fun _ _ _ h => h) (Or.inl ⟨by rfl, ?_⟩) ?_ ?_
 rotate_left
 ·intro w'
  go_simp
  with_reducible rfl
 rotate_left
 ·simp only [Act.put, la_, lz_, ls_, i64_w, i32_w]
  rfl
 refine pure_ (i := 7) (N := some 23) (v := ?_) (a' := ?_) #[T_, T_, F_, F_, F_, F_, F_, T_, F_, F_, F_] rfl rfl (any_of HT_.out (by kernel_rfl)) (fun _ _ _ h => h) (Or.inl ⟨by rfl, ?_⟩) ?_ ?_
 rotate_left
 ·intro w'
  go_simp
  with_reducible rfl
 rotate_left
 ·simp only [Act.put, la_, lz_, ls_, i64_w, i32_w]
  rfl
 refine take_ (i := 2) (N := some 18) (v := ?_) (a' := ?_) #[T_, T_, T_, F_, F_, F_, F_, T_, F_, F_, F_] rfl rfl (take_ofW HT_.out HW_.out (by kernel_rfl)) (fun _ _ _ h => h) (Or.inl ⟨by rfl, ?_⟩) hHeld ?_ ?_
 rotate_left
 ·rintro w' ⟨s0, s1, s2⟩
  go_simp
  with_reducible rfl
 rotate_left
 ·simp only [Act.put, la_, lz_, ls_, i64_w, i32_w]
  rfl
 refine pure_ (i := 3) (N := some 19) (v := ?_) (a' := ?_) #[T_, T_, T_, T_, F_, F_, F_, T_, F_, F_, F_] rfl rfl (any_of HT_.out (by kernel_rfl)) (fun _ _ _ h => h) (Or.inl ⟨by rfl, ?_⟩) ?_ ?_
 rotate_left
 ·intro w'
  go_simp
  with_reducible rfl
 rotate_left
 ·simp only [Act.put, la_, lz_, ls_, i64_w, i32_w]
  rfl
 refine pure_ (i := 4) (N := some 20) (v := ?_) (a' := ?_) #[T_, T_, T_, T_, T_, F_, F_, T_, F_, F_, F_] rfl rfl (any_of HT_.out (by kernel_rfl)) (fun _ _ _ h => h) (Or.inl ⟨by rfl, ?_⟩) ?_ ?_
 rotate_left
 ·intro w'
  go_simp
  with_reducible rfl
 rotate_left
 ·simp only [Act.put, la_, lz_, ls_, i64_w, i32_w]
  rfl
 refine take_ (i := 8) (N := some 24) (v := ?_) (a' := ?_) #[T_, T_, T_, T_, T_, F_, F_, T_, T_, F_, F_] rfl rfl (take_ofW HT_.out HW_.out (by kernel_rfl)) (fun _ _ _ h => h) (Or.inl ⟨by rfl, ?_⟩) hHeld ?_ ?_
 rotate_left
 ·rintro w' ⟨s0, s1, s2⟩
  go_simp
  with_reducible rfl
 rotate_left
 ·simp only [Act.put, la_, lz_, ls_, i64_w, i32_w]
  rfl
 refine one_ (i := 5) (N := some 21) #[T_, T_, T_, T_, T_, T_, F_, T_, T_, F_, F_] rfl rfl (one_of HT_.out (by kernel_rfl)) (by decide) (fun K hK => ?_)
 refine value_ (w1 := ?_) (v := ?_) (by rfl) rfl ?_ ?_
 rotate_left 2
 ·go_simp
  constructor
  ·rfl
  rfl
 refine hK.out _ _ ⟨(blk_cell (blk_alloc BK239.out _) 0).trans rfl, (blk_cell (blk_alloc BK239.out _) 1).trans rfl, (blk_cell (blk_alloc BK239.out _) 2).trans rfl⟩ (fun hHeld => ?_)
 clear hK K
 refine norm_ (a' := ?_) ?_ ?_
 rotate_left
 ·show Act.put _ (some 21) _ = _
  simp only [Act.put, la_, lz_, ls_, i64_w, i32_w]
  rfl
 refine one_ (i := 6) (N := some 22) #[T_, T_, T_, T_, T_, T_, T_, T_, T_, F_, F_] rfl rfl (one_of HT_.out (by kernel_rfl)) (by decide) (fun K hK => ?_)
 refine Kd.R_append_step (Kd.int .u8) (w0 := w) w.heap.size (by rfl) (.tmp 16) (.tmp 21) 22 5 (.int .u8 0) 1 rfl Try.underlying22 info5 rfl (by decide) (by omega) v248 y247 (((l0_2.length : Int)) % 256) [.int .u8 (((l0_2.length : Int)) % 256)] (fun k_ => some k_ ≠ (.slice Ao17 t244.length co17 : Value).ownBlock) (fun _ => False) rfl rfl ?aP (fun _ hk => hk.elim) ?aF ?aO ?aB ?aS ?aL ?_
 (case aP => exact rfl)
 (case aB => exact (us_ HB.out))
 (case aF => exact (fun k_ hk => Kd.fresh' (Kd.R_lt (Kd.ur_ HO246.out)) k_ hk))
 (case aO => exact (Kd.ur_ HO249.out))
 (case aS => exact (below_size (us_ HB.out)))
 (case aL => have := LMc6.out; omega)
 intro v251 w19 ho hb hg hat
 rw [← Ny250.out] at ho
 have n0_ := mk_ (blk_grown (g := gb239) (o := .cells #[.int .i64 a0_0, .int .i64 a0_1, .slice A0_2 l0_2.length c0_2] 44 (0, 0)) (u_ BK239.out) hg (Kd.R_ne HO249.out BK239.out (by decide)))
 have n1_ := mk_ (Kd.R_after (ok := (fun _ => True)) (Kd.ur_ HO246.out) hg hat)
 have n2_ := mk_ (hb)
 have n3_ := mk_ (ho)
 clear BK239
 clear HO246
 clear HB
 clear HO249
 have BK239 := n0_
 have HO246 := n1_
 have HB := n2_
 have HO252 := n3_
 clear n0_ n1_ n2_ n3_
 clear ho hb hg hat
 refine hK.out _ _ ⟨(blk_cell BK239.out 0).trans rfl, (blk_cell BK239.out 1).trans rfl, (blk_cell BK239.out 2).trans rfl⟩ (fun hHeld => ?_)
 clear hK K
 refine norm_ (a' := ?_) ?_ ?_
 rotate_left
 ·show Act.put _ (some 22) _ = _
  simp only [Act.put, la_, lz_, ls_, i64_w, i32_w]
  rfl
 refine one_ (i := 9) (N := some 25) #[T_, T_, T_, T_, T_, T_, T_, T_, T_, T_, F_] rfl rfl (one_of HT_.out (by kernel_rfl)) (by decide) (fun K hK => ?_)
 refine Kd.R_append_rows_step (Kd.int .u8) (w0 := w) w.heap.size (by rfl) (.tmp 22) (.tmp 24) 22 5 (.int .u8 0) 1 rfl Try.underlying22 info5 rfl (by decide) (by omega) v251 y250 l0_2 _ _ _ (fun k_ => some k_ ≠ (.slice Ao17 t244.length co17 : Value).ownBlock) (fun _ => False) rfl rfl ?aO ?aR (fun _ _ h => h) (fun _ h => h.elim) ?aF ?aB ?aS ?aL ?_
 (case aR => repeat (first | exact (Kd.C_below HR0_2.out HB.out) | (with_reducible refine Kd.C_alloc ?_ _) | (with_reducible refine Kd.C_drewN ?_ _) | (with_reducible refine Kd.C_drew ?_)))
 (case aB => exact (us_ HB.out))
 (case aF => exact (fun k_ hk => Kd.fresh' (Kd.R_lt (Kd.ur_ HO246.out)) k_ hk))
 (case aO => exact (Kd.ur_ HO252.out))
 (case aS => exact (below_size (us_ HB.out)))
 (case aL => have := LMc7.out; omega)
 intro v254 w20 ho hb hg hat
 rw [← Ny253.out] at ho
 have n0_ := mk_ (blk_grown (g := gb239) (o := .cells #[.int .i64 a0_0, .int .i64 a0_1, .slice A0_2 l0_2.length c0_2] 44 (0, 0)) (u_ BK239.out) hg (Kd.R_ne HO252.out BK239.out (by decide)))
 have n1_ := mk_ (Kd.R_after (ok := (fun _ => True)) (Kd.ur_ HO246.out) hg hat)
 have n2_ := mk_ (hb)
 have n3_ := mk_ (ho)
 clear BK239
 clear HO246
 clear HB
 clear HO252
 have BK239 := n0_
 have HO246 := n1_
 have HB := n2_
 have HO255 := n3_
 clear n0_ n1_ n2_ n3_
 clear ho hb hg hat
 refine hK.out _ _ ⟨(blk_cell BK239.out 0).trans rfl, (blk_cell BK239.out 1).trans rfl, (blk_cell BK239.out 2).trans rfl⟩ (fun hHeld => ?_)
 clear hK K
 refine norm_ (a' := ?_) ?_ ?_
 rotate_left
 ·show Act.put _ (some 25) _ = _
  simp only [Act.put, la_, lz_, ls_, i64_w, i32_w]
  rfl
 refine pure_ (i := 10) (N := some 2) (v := ?_) (a' := ?_) #[T_, T_, T_, T_, T_, T_, T_, T_, T_, T_, T_] rfl rfl (any_of HT_.out (by kernel_rfl)) (fun _ _ _ h => h) (Or.inl ⟨by rfl, ?_⟩) ?_ ?_
 rotate_left
 ·intro w'
  go_simp
  with_reducible rfl
 rotate_left
 ·simp only [Act.put, la_, lz_, ls_, i64_w, i32_w]
  rfl
 refine done_ (done_of HT_.out (by kernel_rfl)) ?_
 try go_wp2
 go_ret
 exact ⟨_, by first | rfl | (simp [errW_none, errW_some] <;> rfl) | (simp [*, errW_none, errW_some] <;> rfl), by (with_reducible repeat (first | apply Kd.R_alloc | apply Kd.R_drewN | apply Kd.R_drew)); exact Kd.R_mono HO255.out (fun _ hk => trivial), us_ HB.out⟩

/-! ### spec_l4Flags: function 128 -/
def spec_l4Flags.f (a0_0 : Int) (a0_1 : Int) (a0_2 : Int) (a0_3 : Int) (a0_4 : Int) (a0_5 : Int) (a0_6 : Bool) (a0_7 : Bool) (l0_8 : List Int) : Option (Int) := if a0_6 = true then (if a0_7 = true then (some ((0 + 1) + 2)) else (some (0 + 1))) else (if a0_7 = true then (some (0 + 2)) else (some 0))
set_option maxHeartbeats 8000000 in
set_option maxRecDepth 100000 in
theorem spec_l4Flags.calls (a0_0 : Int) (a0_1 : Int) (a0_2 : Int) (a0_3 : Int) (a0_4 : Int) (a0_5 : Int) (a0_6 : Bool) (a0_7 : Bool) (A0_8 : Option Addr) (c0_8 : Nat) (l0_8 : List Int) (r : Int) (w : World) (hr0_8 : Kd.C (Kd.int .u8) w A0_8 l0_8.length l0_8) (hc0_8 : l0_8.length ≤ c0_8) (h : spec_l4Flags.f a0_0 a0_1 a0_2 a0_3 a0_4 a0_5 a0_6 a0_7 l0_8 = some r) :
  Calls Try.prog 128 #[.agg #[.int .i64 a0_0, .int .i64 a0_1, .int .i64 a0_2, .int .i64 a0_3, .int .i64 a0_4, .int .i64 a0_5, .bool a0_6, .bool a0_7, .slice A0_8 l0_8.length c0_8]] w fun e w' => e = .returned (.int .i64 r) ∧ Below w.heap.size w w' := by
 have hu37 := Try.underlying37
 have HR0_8 := mk_ hr0_8
 have HC0_8 := mk_ hc0_8
 clear hr0_8 hc0_8
 have HB := mk_ (Below.refl w.heap.size w)
 have H := h
 unfold spec_l4Flags.f at H
 clear h
 by_cases c2 : a0_6 = true
 ·subst c2
  rw [if_pos rfl] at H
  by_cases c3 : a0_7 = true
  ·subst c3
   have H1 : (some ((0 + 1) + 2)) = some r := by rw [if_pos rfl] at H; exact H
   clear H
   have H := H1
   clear H1
   obtain rfl := Option.some.inj H
   go_enter Try.func128, Try.ntmps128
   go_wp2_with (first | ((with_reducible refine gate_dst (N := 1) rfl ?_); refine box_event ?hg (N := 1) ?hd (cs := #[.int .i64 a0_0, .int .i64 a0_1, .int .i64 a0_2, .int .i64 a0_3, .int .i64 a0_4, .int .i64 a0_5, .bool true, .bool true, .slice A0_8 l0_8.length c0_8]) (t := 37) ?hr ?_; (case hd => rfl); (case hg => rfl); (case hr => first | (go_simp; done) | (go_simp; rfl)); intro gb259 hg w4 hbox hb; have n0_ := mk_ (below_step (ub_ HB.out) hb); have BK259 := mk_ (hbox); have GW259 := mk_ ((by rw [hg]; exact (below_size (ub_ HB.out)) : w.heap.size ≤ gb259)); have GE259 := ge_ ((by rw [hg]; exact (below_size (ub_ HB.out)) : w.heap.size ≤ gb259)); replace HB := n0_; clear n0_; clear hb hbox hg; obtain ⟨_, _, _, _, _, _, _, _, _, _, _, _, _, _, _, _, _, _⟩ := cells9_ BK259.out))
   go_ret
   exact ⟨by first | rfl | (simp [errW_none, errW_some] <;> rfl) | (simp [*, errW_none, errW_some] <;> rfl), us_ HB.out⟩
  replace c3 := Bool.eq_false_iff.mpr c3
  subst c3
  have H1 : (some (0 + 1)) = some r := by rw [if_neg (show ¬ (false = true) by decide)] at H; exact H
  clear H
  have H := H1
  clear H1
  obtain rfl := Option.some.inj H
  go_enter Try.func128, Try.ntmps128
  go_wp2_with (first | ((with_reducible refine gate_dst (N := 1) rfl ?_); refine box_event ?hg (N := 1) ?hd (cs := #[.int .i64 a0_0, .int .i64 a0_1, .int .i64 a0_2, .int .i64 a0_3, .int .i64 a0_4, .int .i64 a0_5, .bool true, .bool false, .slice A0_8 l0_8.length c0_8]) (t := 37) ?hr ?_; (case hd => rfl); (case hg => rfl); (case hr => first | (go_simp; done) | (go_simp; rfl)); intro gb259 hg w6 hbox hb; have n0_ := mk_ (below_step (ub_ HB.out) hb); have BK259 := mk_ (hbox); have GW259 := mk_ ((by rw [hg]; exact (below_size (ub_ HB.out)) : w.heap.size ≤ gb259)); have GE259 := ge_ ((by rw [hg]; exact (below_size (ub_ HB.out)) : w.heap.size ≤ gb259)); replace HB := n0_; clear n0_; clear hb hbox hg; obtain ⟨_, _, _, _, _, _, _, _, _, _, _, _, _, _, _, _, _, _⟩ := cells9_ BK259.out))
  go_ret
  exact ⟨by first | rfl | (simp [errW_none, errW_some] <;> rfl) | (simp [*, errW_none, errW_some] <;> rfl), us_ HB.out⟩
 replace c2 := Bool.eq_false_iff.mpr c2
 subst c2
 have H1 : (if a0_7 = true then (some (0 + 2)) else (some 0)) = some r := by rw [if_neg (show ¬ (false = true) by decide)] at H; exact H
 clear H
 have H := H1
 clear H1
 by_cases c8 : a0_7 = true
 ·subst c8
  have H1 : (some (0 + 2)) = some r := by rw [if_pos rfl] at H; exact H
  clear H
  have H := H1
  clear H1
  obtain rfl := Option.some.inj H
  go_enter Try.func128, Try.ntmps128
  go_wp2_with (first | ((with_reducible refine gate_dst (N := 1) rfl ?_); refine box_event ?hg (N := 1) ?hd (cs := #[.int .i64 a0_0, .int .i64 a0_1, .int .i64 a0_2, .int .i64 a0_3, .int .i64 a0_4, .int .i64 a0_5, .bool false, .bool true, .slice A0_8 l0_8.length c0_8]) (t := 37) ?hr ?_; (case hd => rfl); (case hg => rfl); (case hr => first | (go_simp; done) | (go_simp; rfl)); intro gb259 hg w9 hbox hb; have n0_ := mk_ (below_step (ub_ HB.out) hb); have BK259 := mk_ (hbox); have GW259 := mk_ ((by rw [hg]; exact (below_size (ub_ HB.out)) : w.heap.size ≤ gb259)); have GE259 := ge_ ((by rw [hg]; exact (below_size (ub_ HB.out)) : w.heap.size ≤ gb259)); replace HB := n0_; clear n0_; clear hb hbox hg; obtain ⟨_, _, _, _, _, _, _, _, _, _, _, _, _, _, _, _, _, _⟩ := cells9_ BK259.out))
  go_ret
  exact ⟨by first | rfl | (simp [errW_none, errW_some] <;> rfl) | (simp [*, errW_none, errW_some] <;> rfl), us_ HB.out⟩
 replace c8 := Bool.eq_false_iff.mpr c8
 subst c8
 have H1 : (some 0) = some r := by rw [if_neg (show ¬ (false = true) by decide)] at H; exact H
 clear H
 have H := H1
 clear H1
 obtain rfl := Option.some.inj H
 go_enter Try.func128, Try.ntmps128
 go_wp2_with (first | ((with_reducible refine gate_dst (N := 1) rfl ?_); refine box_event ?hg (N := 1) ?hd (cs := #[.int .i64 a0_0, .int .i64 a0_1, .int .i64 a0_2, .int .i64 a0_3, .int .i64 a0_4, .int .i64 a0_5, .bool false, .bool false, .slice A0_8 l0_8.length c0_8]) (t := 37) ?hr ?_; (case hd => rfl); (case hg => rfl); (case hr => first | (go_simp; done) | (go_simp; rfl)); intro gb259 hg w11 hbox hb; have n0_ := mk_ (below_step (ub_ HB.out) hb); have BK259 := mk_ (hbox); have GW259 := mk_ ((by rw [hg]; exact (below_size (ub_ HB.out)) : w.heap.size ≤ gb259)); have GE259 := ge_ ((by rw [hg]; exact (below_size (ub_ HB.out)) : w.heap.size ≤ gb259)); replace HB := n0_; clear n0_; clear hb hbox hg; obtain ⟨_, _, _, _, _, _, _, _, _, _, _, _, _, _, _, _, _, _⟩ := cells9_ BK259.out))
 go_ret
 exact ⟨by first | rfl | (simp [errW_none, errW_some] <;> rfl) | (simp [*, errW_none, errW_some] <;> rfl), us_ HB.out⟩

end Go.Proofs.Ytkkibccnpkbbjab.MFnExactNoteAbout
