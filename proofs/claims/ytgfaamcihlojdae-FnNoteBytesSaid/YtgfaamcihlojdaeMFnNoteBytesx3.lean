/- Functions that the law FnNoteBytes reaches, each with the proof that the machine's call comes to just its answer; no conditions but those that each theorem states. Printed by a program of this session over the kit's print. -/
import Derived.Test.YtgfaamcihlojdaeMFnNoteBytesx0
import Derived.Test.YtgfaamcihlojdaeMFnNoteBytesx1
import Derived.Test.YtgfaamcihlojdaeMFnNoteBytesx2
namespace Go.Proofs.Ytgfaamcihlojdae.MFnNoteBytes
open Go.RowKit Go.Proofs.YtgfaamcihlojdaeV.PrintWords Go.Proofs.YtgfaamcihlojdaeV.PrintLast Go.Proofs.YtgfaamcihlojdaeV.PrintMore
attribute [local go_sem] max2_int min2_int max_two min_two max_three min_three max_four min_four   -- for this text's walks alone
set_option linter.unusedVariables false
set_option linter.unusedSimpArgs false

/-! ### impl_NoteBytes: function 14 -/
def impl_NoteBytes.f (k : Nat) (a0_0 : Int) (a0_1 : Int) (l0_2 : List Int) : Option (List Int) := (impl_NoteOk.f a0_0 a0_1 l0_2).bind fun t187 => (if t187 = true then ((impl_bytesOf.f k a0_1 2).bind fun t191 => ((slices_Concat_byte_byte.f (([(([(a0_0) % 256] : List Int)), t191, (([((l0_2.length : Int)) % 256] : List Int)), l0_2] : List (List Int)))).bind fun t200 => (some t200))) else (some ([] : List Int)))
theorem impl_NoteBytes.mono : ∀ a0 a1 a2 k, LeO (impl_NoteBytes.f k a0 a1 a2) (impl_NoteBytes.f (k + 1) a0 a1 a2) := by
 intro a0 a1 a2 k
 unfold impl_NoteBytes.f
 repeat' first
   | (with_reducible exact impl_bytesOf.mono _ _ _)
   | (with_reducible exact LeO.refl _)
   | (with_reducible exact LeO.none _)
   | (with_reducible refine LeO.ite ?_ ?_)
   | (with_reducible refine LeO.bind ?_ (fun _ => ?_))
   | exact impl_bytesOf.mono _ _ _
   | exact LeO.none _
   | refine LeO.ite ?_ ?_
   | refine LeO.bind ?_ (fun _ => ?_)
def impl_NoteBytes.T3 : Bool × List (List Nat × List Nat) := (true, [([], []), ([0], [0]), ([1], [1]), ([2], [2]), ([], []), ([4], [4]), ([5], [5]), ([], []), ([7], [7]), ([8], [8]), ([9], [9]), ([10], [10]), ([], []), ([12], [12]), ([3, 6, 11, 13], [3, 6, 11, 13]), ([14, 6], [14]), ([15, 15, 0, 1, 2, 3, 4, 5, 6, 7, 8, 9, 10, 11, 12, 13, 14, 15], [15])])
def impl_NoteBytes.B3 : List Nat := [0, 1, 3, 7, 0, 16, 48, 0, 128, 384, 896, 1920, 0, 4096, 16383, 32767, 65535]
theorem impl_NoteBytes.tab3 : rtab .any (opsOf Try.f14 3) = impl_NoteBytes.T3 := by kernel_rfl
theorem impl_NoteBytes.bits3 : waitsOk impl_NoteBytes.T3.2 impl_NoteBytes.B3 = true := by kernel_rfl
set_option maxHeartbeats 8000000 in
set_option maxRecDepth 100000 in
theorem impl_NoteBytes.calls (k : Nat) (a0_0 : Int) (a0_1 : Int) (P0_2_ : Nat → Prop) (A0_2 : Option Addr) (c0_2 : Nat) (l0_2 : List Int) (r : List Int) (w : World) (hs0_2 : Kd.V (Kd.int .u8) 5 w w.heap.size (fun k_ => P0_2_ k_) (.slice A0_2 l0_2.length c0_2) l0_2) (h : impl_NoteBytes.f k a0_0 a0_1 l0_2 = some r) :
  Calls Try.prog 14 #[.agg #[.int .i64 a0_0, .int .i64 a0_1, .slice A0_2 l0_2.length c0_2]] w fun e w' => ∃ v0_ : Value, e = .returned (v0_) ∧ Kd.R (Kd.int .u8) 5 w' w.heap.size (fun k_ => (w.heap.size ≤ k_)) v0_ r ∧ Below w.heap.size w w' := by
 have hu31 := Try.underlying31
 have HO0_2 := mk_ (show Kd.V (Kd.int .u8) 5 w w.heap.size (fun k_ => (P0_2_ k_ ∨ w.heap.size ≤ k_)) (.slice A0_2 l0_2.length c0_2) l0_2 from Kd.V_mono hs0_2 (fun k_ hk => .inl hk))
 have HB := mk_ (Below.refl w.heap.size w)
 have H : ((impl_NoteOk.f a0_0 a0_1 l0_2).bind fun t187 => (if t187 = true then ((impl_bytesOf.f k a0_1 2).bind fun t191 => ((slices_Concat_byte_byte.f (([(([(a0_0) % 256] : List Int)), t191, (([((l0_2.length : Int)) % 256] : List Int)), l0_2] : List (List Int)))).bind fun t200 => (some t200))) else (some ([] : List Int)))) = some r := h
 clear h
 replace H := Option.bind_eq_some_iff.mp H
 obtain ⟨t187, A20, H⟩ := H
 replace H : (if t187 = true then ((impl_bytesOf.f k a0_1 2).bind fun t191 => ((slices_Concat_byte_byte.f (([(([(a0_0) % 256] : List Int)), t191, (([((l0_2.length : Int)) % 256] : List Int)), l0_2] : List (List Int)))).bind fun t200 => (some t200))) else (some ([] : List Int))) = some r := H
 have A2 := mk_ A20
 clear A20
 by_cases c3 : t187 = true
 rotate_left
 ·replace c3 := Bool.eq_false_iff.mpr c3
  subst c3
  have H1 : (some ([] : List Int)) = some r := by rw [if_neg (show ¬ (false = true) by decide)] at H; exact H
  clear H
  have H := H1
  clear H1
  obtain rfl := Option.some.inj H
  go_enter Try.func14, Try.ntmps14
  go_wp2_with (first | ((with_reducible refine gate_dst (N := 1) rfl ?_); refine box_event ?hg (N := 1) ?hd (cs := #[.int .i64 a0_0, .int .i64 a0_1, .slice A0_2 l0_2.length c0_2]) (t := 31) ?hr ?_; (case hd => rfl); (case hg => rfl); (case hr => first | (go_simp; done) | (go_simp; rfl)); intro gb186 hg w23 hbox hb; have n0_ := mk_ (Kd.V_below (Kd.V_elderB (by (with_reducible repeat (first | apply Kd.V_alloc | apply Kd.V_drewN | apply Kd.V_drew)); exact HO0_2.out) gb186 (Nat.le_of_eq hg.symm)) hb); have n1_ := mk_ (below_step (ub_ HB.out) hb); have n2_ := mk_ (hbox); have n3_ := mk_ ((by rw [hg]; exact (below_size (ub_ HB.out)) : w.heap.size ≤ gb186)); have n4_ := mk_ ((by rw [hg]; exact (below_size (ub_ HB.out)) : w.heap.size ≤ gb186)); clear HO0_2; clear HB; have HO0_2 := n0_; have HB := n1_; have BK186 := n2_; have GW186 := n3_; have GE186 := ge_ n4_.out; clear n0_ n1_ n2_ n3_ n4_; clear hb hbox hg; have hcz24_0 : w23.cell? ⟨gb186, 0, none⟩ = some (.int .i64 a0_0) := (blk_cell BK186.out 0).trans rfl; have hcz24_1 : w23.cell? ⟨gb186, 1, none⟩ = some (.int .i64 a0_1) := (blk_cell BK186.out 1).trans rfl; have hcz24_2 : w23.cell? ⟨gb186, 2, none⟩ = some (.slice A0_2 l0_2.length c0_2) := (blk_cell BK186.out 2).trans rfl; have hfz24_0 := blk_frozen BK186.out 0; have hfz24_1 := blk_frozen BK186.out 1; have hfz24_2 := blk_frozen BK186.out 2) | ((with_reducible refine gate_callee (f := 17) rfl ?_); refine goesL_ (some 4) rfl rfl Try.func17 (by kernel_rfl) rfl #[.agg #[.int .i64 a0_0, .int .i64 a0_1, .slice A0_2 l0_2.length c0_2]] rfl (by (try simp only [lm_, lo_, ln_]); first | done | rfl | (simp only [List.length_drop, List.length_take]; rfl)) ?_; (with_reducible refine (impl_NoteOk.calls a0_0 a0_1 _ _ l0_2 false _ ?side1 ?side2 A2.out).mono ?_); (case side1 => repeat (first | exact (Kd.V_reads' HO0_2.out).2.2 | (with_reducible refine Kd.C_alloc ?_ _) | (with_reducible refine Kd.C_drewN ?_ _) | (with_reducible refine Kd.C_drew ?_))); (case side2 => exact (Kd.V_reads' HO0_2.out).2.1); rintro e w25 ⟨rfl, hb⟩; refine ⟨_, rfl, ?_⟩; have n0_ := mk_ (Kd.V_below (by (with_reducible repeat (first | apply Kd.V_alloc | apply Kd.V_drewN | apply Kd.V_drew)); exact HO0_2.out) hb); have n1_ := mk_ (blk_below (u_ BK186.out) hb); have n2_ := mk_ (below_step (us_ HB.out) hb); clear HO0_2; clear BK186; clear HB; have HO0_2 := n0_; have BK186 := n1_; have HB := n2_; clear n0_ n1_ n2_; (try clear hb); (try clear hb2); (try clear hk); (try clear hi)))
  go_ret
  exact ⟨_, by first | rfl | (simp [errW_none, errW_some] <;> rfl) | (simp [*, errW_none, errW_some] <;> rfl), by first | exact Kd.R_nil _ _ _ _ _ | exact Kd.N_nil _ _ _ _ _ | exact Kd.V_nil _ _ _ _ _ | exact Kd.Q_nil _ _ _ _ _ | exact Kd.S_nil _ _ _ _ _, us_ HB.out⟩
 subst c3
 have H1 : ((impl_bytesOf.f k a0_1 2).bind fun t191 => ((slices_Concat_byte_byte.f (([(([(a0_0) % 256] : List Int)), t191, (([((l0_2.length : Int)) % 256] : List Int)), l0_2] : List (List Int)))).bind fun t200 => (some t200))) = some r := by rw [if_pos rfl] at H; exact H
 clear H
 have H := H1
 clear H1
 obtain ⟨y188, hy188⟩ : ∃ y_ : List Int, y_ = (([(a0_0) % 256] : List Int)) := ⟨_, rfl⟩
 replace H : ((impl_bytesOf.f k a0_1 2).bind fun t191 => ((slices_Concat_byte_byte.f (([y188, t191, (([((l0_2.length : Int)) % 256] : List Int)), l0_2] : List (List Int)))).bind fun t200 => (some t200))) = some r := by first | (rw [hy188]; with_reducible exact H) | (have H2_ := (Option.bind_some _ _).symm.trans H; rw [hy188]; with_reducible exact H2_) | (have H2_ := (Option.bind_some _ _).symm.trans H; with_reducible exact H2_) | with_reducible exact H | (rw [hy188]; exact H) | exact H
 have Ny188 := mk_ hy188
 clear hy188
 replace H := Option.bind_eq_some_iff.mp H
 obtain ⟨t191, A40, H⟩ := H
 replace H : ((slices_Concat_byte_byte.f (([y188, t191, (([((l0_2.length : Int)) % 256] : List Int)), l0_2] : List (List Int)))).bind fun t200 => (some t200)) = some r := H
 have A4 := mk_ A40
 clear A40
 obtain ⟨y194, hy194⟩ : ∃ y_ : List Int, y_ = (([((l0_2.length : Int)) % 256] : List Int)) := ⟨_, rfl⟩
 replace H : ((slices_Concat_byte_byte.f (([y188, t191, y194, l0_2] : List (List Int)))).bind fun t200 => (some t200)) = some r := by first | (rw [hy194]; with_reducible exact H) | (have H2_ := (Option.bind_some _ _).symm.trans H; rw [hy194]; with_reducible exact H2_) | (have H2_ := (Option.bind_some _ _).symm.trans H; with_reducible exact H2_) | with_reducible exact H | (rw [hy194]; exact H) | exact H
 have Ny194 := mk_ hy194
 clear hy194
 obtain ⟨y197, hy197⟩ : ∃ y_ : List (List Int), y_ = (([y188, t191, y194, l0_2] : List (List Int))) := ⟨_, rfl⟩
 replace H : ((slices_Concat_byte_byte.f y197).bind fun t200 => (some t200)) = some r := by first | (rw [hy197]; with_reducible exact H) | (have H2_ := (Option.bind_some _ _).symm.trans H; rw [hy197]; with_reducible exact H2_) | (have H2_ := (Option.bind_some _ _).symm.trans H; with_reducible exact H2_) | with_reducible exact H | (rw [hy197]; exact H) | exact H
 have Ny197 := mk_ hy197
 clear hy197
 replace H := Option.bind_eq_some_iff.mp H
 obtain ⟨t200, A50, H⟩ := H
 replace H : (some t200) = some r := H
 have A5 := mk_ A50
 clear A50
 obtain rfl := Option.some.inj H
 go_enter Try.func14, Try.ntmps14
 try go_wp2_with (first | ((with_reducible refine gate_dst (N := 1) rfl ?_); refine box_event ?hg (N := 1) ?hd (cs := #[.int .i64 a0_0, .int .i64 a0_1, .slice A0_2 l0_2.length c0_2]) (t := 31) ?hr ?_; (case hd => rfl); (case hg => rfl); (case hr => first | (go_simp; done) | (go_simp; rfl)); intro gb186 hg w6 hbox hb; have n0_ := mk_ (Kd.V_below (Kd.V_elderB (by (with_reducible repeat (first | apply Kd.V_alloc | apply Kd.V_drewN | apply Kd.V_drew)); exact HO0_2.out) gb186 (Nat.le_of_eq hg.symm)) hb); have n1_ := mk_ (below_step (ub_ HB.out) hb); have n2_ := mk_ (hbox); have n3_ := mk_ ((by rw [hg]; exact (below_size (ub_ HB.out)) : w.heap.size ≤ gb186)); have n4_ := mk_ ((by rw [hg]; exact (below_size (ub_ HB.out)) : w.heap.size ≤ gb186)); clear HO0_2; clear HB; have HO0_2 := n0_; have HB := n1_; have BK186 := n2_; have GW186 := n3_; have GE186 := ge_ n4_.out; clear n0_ n1_ n2_ n3_ n4_; clear hb hbox hg; have hcz7_0 : w6.cell? ⟨gb186, 0, none⟩ = some (.int .i64 a0_0) := (blk_cell BK186.out 0).trans rfl; have hcz7_1 : w6.cell? ⟨gb186, 1, none⟩ = some (.int .i64 a0_1) := (blk_cell BK186.out 1).trans rfl; have hcz7_2 : w6.cell? ⟨gb186, 2, none⟩ = some (.slice A0_2 l0_2.length c0_2) := (blk_cell BK186.out 2).trans rfl; have hfz7_0 := blk_frozen BK186.out 0; have hfz7_1 := blk_frozen BK186.out 1; have hfz7_2 := blk_frozen BK186.out 2) | ((with_reducible refine gate_callee (f := 17) rfl ?_); refine goesL_ (some 4) rfl rfl Try.func17 (by kernel_rfl) rfl #[.agg #[.int .i64 a0_0, .int .i64 a0_1, .slice A0_2 l0_2.length c0_2]] rfl (by (try simp only [lm_, lo_, ln_]); first | done | rfl | (simp only [List.length_drop, List.length_take]; rfl)) ?_; (with_reducible refine (impl_NoteOk.calls a0_0 a0_1 _ _ l0_2 true _ ?side1 ?side2 A2.out).mono ?_); (case side1 => repeat (first | exact (Kd.V_reads' HO0_2.out).2.2 | (with_reducible refine Kd.C_alloc ?_ _) | (with_reducible refine Kd.C_drewN ?_ _) | (with_reducible refine Kd.C_drew ?_))); (case side2 => exact (Kd.V_reads' HO0_2.out).2.1); rintro e w8 ⟨rfl, hb⟩; refine ⟨_, rfl, ?_⟩; have n0_ := mk_ (Kd.V_below (by (with_reducible repeat (first | apply Kd.V_alloc | apply Kd.V_drewN | apply Kd.V_drew)); exact HO0_2.out) hb); have n1_ := mk_ (blk_below (u_ BK186.out) hb); have n2_ := mk_ (below_step (us_ HB.out) hb); clear HO0_2; clear BK186; clear HB; have HO0_2 := n0_; have BK186 := n1_; have HB := n2_; clear n0_ n1_ n2_; (try clear hb); (try clear hb2); (try clear hk); (try clear hi)))
 have n0_ := mk_ (Kd.V_drew HO0_2.out)
 have n1_ := mk_ (blk_drew BK186.out)
 have n2_ := mk_ (below_drew1 HB.out)
 clear HO0_2
 clear BK186
 clear HB
 have HO0_2 := n0_
 have BK186 := n1_
 have HB := n2_
 clear n0_ n1_ n2_
 refine start_ (n := 17) (S := fun w' => True) (ds := []) #[F_, F_, F_, F_, F_, F_, F_, F_, F_, F_, F_, F_, F_, F_, F_, F_, F_] (by kernel_rfl) rfl rfl trivial (fun hHeld => ?_); refine with_tabW impl_NoteBytes.tab3 impl_NoteBytes.bits3 (fun HT_ HW_ => ?_)
 generalize w8.drew = w9 at HO0_2 BK186 HB hHeld ⊢
 refine pure_ (i := 0) (N := some 6) (v := ?_) (a' := ?_) #[T_, F_, F_, F_, F_, F_, F_, F_, F_, F_, F_, F_, F_, F_, F_, F_, F_] rfl rfl (any_of HT_.out (by kernel_rfl)) (fun _ _ _ h => h) (Or.inl ⟨by rfl, ?_⟩) ?_ ?_
 rotate_left
 ·intro w'
  go_simp
  with_reducible rfl
 rotate_left
 ·simp only [Act.put, la_, lz_, ls_, i64_w, i32_w]
  rfl
 refine pure_ (i := 4) (N := some 10) (v := ?_) (a' := ?_) #[T_, F_, F_, F_, T_, F_, F_, F_, F_, F_, F_, F_, F_, F_, F_, F_, F_] rfl rfl (any_of HT_.out (by kernel_rfl)) (fun _ _ _ h => h) (Or.inl ⟨by rfl, ?_⟩) ?_ ?_
 rotate_left
 ·intro w'
  go_simp
  with_reducible rfl
 rotate_left
 ·simp only [Act.put, la_, lz_, ls_, i64_w, i32_w]
  rfl
 refine pure_ (i := 7) (N := some 13) (v := ?_) (a' := ?_) #[T_, F_, F_, F_, T_, F_, F_, T_, F_, F_, F_, F_, F_, F_, F_, F_, F_] rfl rfl (any_of HT_.out (by kernel_rfl)) (fun _ _ _ h => h) (Or.inl ⟨by rfl, ?_⟩) ?_ ?_
 rotate_left
 ·intro w'
  go_simp
  with_reducible rfl
 rotate_left
 ·simp only [Act.put, la_, lz_, ls_, i64_w, i32_w]
  rfl
 refine pure_ (i := 12) (N := some 18) (v := ?_) (a' := ?_) #[T_, F_, F_, F_, T_, F_, F_, T_, F_, F_, F_, F_, T_, F_, F_, F_, F_] rfl rfl (any_of HT_.out (by kernel_rfl)) (fun _ _ _ h => h) (Or.inl ⟨by rfl, ?_⟩) ?_ ?_
 rotate_left
 ·intro w'
  go_simp
  with_reducible rfl
 rotate_left
 ·simp only [Act.put, la_, lz_, ls_, i64_w, i32_w]
  rfl
 refine inv_at [1, 2, 3, 5, 6, 8, 9, 10, 11, 13, 14, 15, 16] (fun a0_ b a w' => ∃ (v189 : Value) (v192 : Value) (v195 : Value) (v198 : Value) (v201 : Value) (m16_ : Value), a = putSel a0_ b [(1, 7, .int .i64 a0_0), (2, 8, .int .u8 ((a0_0) % 256)), (3, 9, v189), (5, 11, .int .i64 a0_1), (6, 12, v192), (8, 14, .slice A0_2 l0_2.length c0_2), (9, 15, .int .i64 (l0_2.length : Int)), (10, 16, .int .u8 (((l0_2.length : Int)) % 256)), (11, 17, v195), (13, 19, .slice A0_2 l0_2.length c0_2), (14, 20, v198), (15, 21, v201), (16, 2, m16_)] ∧ (Kd.V (Kd.int .u8) 5 w' w.heap.size (fun k_ => (P0_2_ k_ ∨ w.heap.size ≤ k_) ∧ k_ ≠ gb186) (.slice A0_2 l0_2.length c0_2) l0_2) ∧ (w'.heap[gb186]? = some (.cells #[.int .i64 a0_0, .int .i64 a0_1, .slice A0_2 l0_2.length c0_2] 31 (0, 0))) ∧ (Below w.heap.size w w') ∧ (b 3 = true → b 14 = false → Kd.R (Kd.int .u8) 5 w' w.heap.size (fun k_ => (w.heap.size ≤ k_)) v189 y188) ∧ (b 6 = true → b 14 = false → Kd.R (Kd.int .u8) 5 w' w.heap.size (fun k_ => (w.heap.size ≤ k_)) v192 t191) ∧ (b 11 = true → b 14 = false → Kd.R (Kd.int .u8) 5 w' w.heap.size (fun k_ => (w.heap.size ≤ k_)) v195 y194) ∧ (b 14 = true → Kd.N (Kd.slice 5 (Kd.int .u8)) 22 w' w.heap.size (fun k_ => (P0_2_ k_ ∨ w.heap.size ≤ k_) ∧ k_ ≠ gb186) v198 y197) ∧ (b 15 = true → Kd.R (Kd.int .u8) 5 w' w.heap.size (fun k_ => (w.heap.size ≤ k_)) v201 t200) ∧ (b 16 = true → (m16_ : Value) = v201)) HT_.out HW_.out (by kernel_rfl) (by kernel_rfl) ?_ ?_ ?_
 ·exact ⟨.bool false, .bool false, .bool false, .bool false, .bool false, .bool false, by simp only [putSel, Bool.false_eq_true, if_false], HO0_2.out, BK186.out, HB.out, fun h_ => absurd h_ (by decide), fun h_ => absurd h_ (by decide), fun h_ => absurd h_ (by decide), fun h_ => absurd h_ (by decide), fun h_ => absurd h_ (by decide), fun h_ => absurd h_ (by decide)⟩
 ·skip
  clear BK186 HB HO0_2
  refine steps_cons ?_ ?_
  ·rintro b a w' ⟨v189, v192, v195, v198, v201, m16_, ha, Q_HO0_2, Q_BK186, Q_HB, Q_HO190, Q_HO193, Q_HO196, Q_HO199, Q_HO202, Q_X16_⟩ hb_ hon hoff
   refine ⟨_, rfl, fun K hK => ?_⟩
   have e6 : a.tmps[6]? = some (.pointer (some ⟨gb186, 0, none⟩)) := by rw [ha]; exact (putSel_off rfl).trans rfl
   replace ha := mk_ ha
   have HO0_2 := mk_ Q_HO0_2
   have BK186 := mk_ Q_BK186
   have HB := mk_ Q_HB
   have hc0_ : w'.cell? ⟨gb186, 0, none⟩ = some (.int .i64 a0_0) := (blk_cell BK186.out 0).trans rfl
   have hc1_ : w'.cell? ⟨gb186, 1, none⟩ = some (.int .i64 a0_1) := (blk_cell BK186.out 1).trans rfl
   have hc2_ : w'.cell? ⟨gb186, 2, none⟩ = some (.slice A0_2 l0_2.length c0_2) := (blk_cell BK186.out 2).trans rfl
   refine value_ (w1 := w') (v := .int .i64 a0_0) (by rfl) rfl ?_ ?_
   ·go_simp
    (try simp only [i64_w])
    try rfl
   refine hK.out _ _ ⟨v189, v192, v195, v198, v201, m16_, (by rw [ha.out]; exact putSel_upk 0 hb_ rfl rfl rfl), Q_HO0_2, Q_BK186, Q_HB, fun h0_ _ => absurd ((hoff 3 (by kernel_rfl)).symm.trans h0_) (by decide), Q_HO193, Q_HO196, fun h0_ => absurd ((hoff 14 (by kernel_rfl)).symm.trans h0_) (by decide), fun h0_ => absurd ((hoff 15 (by kernel_rfl)).symm.trans h0_) (by decide), fun h0_ => absurd ((hoff 16 (by kernel_rfl)).symm.trans h0_) (by decide)⟩
  refine steps_cons ?_ ?_
  ·rintro b a w' ⟨v189, v192, v195, v198, v201, m16_, ha, Q_HO0_2, Q_BK186, Q_HB, Q_HO190, Q_HO193, Q_HO196, Q_HO199, Q_HO202, Q_X16_⟩ hb_ hon hoff
   refine ⟨_, rfl, fun K hK => ?_⟩
   have e7 : a.tmps[7]? = some (.int .i64 a0_0) := by rw [ha]; exact putSel_on (e := (1, 7, .int .i64 a0_0)) 0 rfl rfl (hon 1 (by kernel_rfl)) rfl
   replace ha := mk_ ha
   have HO0_2 := mk_ Q_HO0_2
   have BK186 := mk_ Q_BK186
   have HB := mk_ Q_HB
   refine value_ (w1 := w') (v := .int .u8 ((a0_0) % 256)) (by rfl) rfl ?_ ?_
   ·go_simp
    (try simp only [i64_w])
    try rfl
   refine hK.out _ _ ⟨v189, v192, v195, v198, v201, m16_, (by rw [ha.out]; exact putSel_upk 1 hb_ rfl rfl rfl), Q_HO0_2, Q_BK186, Q_HB, fun h0_ _ => absurd ((hoff 3 (by kernel_rfl)).symm.trans h0_) (by decide), Q_HO193, Q_HO196, fun h0_ => absurd ((hoff 14 (by kernel_rfl)).symm.trans h0_) (by decide), fun h0_ => absurd ((hoff 15 (by kernel_rfl)).symm.trans h0_) (by decide), fun h0_ => absurd ((hoff 16 (by kernel_rfl)).symm.trans h0_) (by decide)⟩
  refine steps_cons ?_ ?_
  ·rintro b a w' ⟨v189, v192, v195, v198, v201, m16_, ha, Q_HO0_2, Q_BK186, Q_HB, Q_HO190, Q_HO193, Q_HO196, Q_HO199, Q_HO202, Q_X16_⟩ hb_ hon hoff
   refine ⟨_, rfl, fun K hK => ?_⟩
   have e8 : a.tmps[8]? = some (.int .u8 ((a0_0) % 256)) := by rw [ha]; exact putSel_on (e := (2, 8, .int .u8 ((a0_0) % 256))) 1 rfl rfl (hon 2 (by kernel_rfl)) rfl
   replace ha := mk_ ha
   have HO0_2 := mk_ Q_HO0_2
   have BK186 := mk_ Q_BK186
   have HB := mk_ Q_HB
   refine Kd.R_lit_step (Kd.int .u8) _ 5 ?hg (N := 9) ?hd (xs := ([(a0_0) % 256] : List Int)) (inner := [.int .u8 ((a0_0) % 256)]) (ok := fun _ => True) (okp := fun _ => True) ?hr ?hp (fun _ hk => hk) trivial (Below.refl _ _) (Nat.le_refl _) (by simp) ?_; (case hd => rfl); (case hg => rfl); (case hr => first | (go_simp; done) | (go_simp; rfl)); (case hp => exact (Reps.one (show Kd.M (Kd.int .u8) _ _ _ ((a0_0) % 256) [.int .u8 ((a0_0) % 256)] from rfl) (Reps.none _ _)))
   intro v189 w10 ho11 hb hg_ hnew_
   clear hg_ hnew_
   (first | rw [← Ny188.out] at ho11 | (simp only [Int.reduceToNat] at ho11; rw [← Ny188.out] at ho11))
   have n0_ := mk_ (Kd.V_elder' (by (with_reducible repeat (first | apply Kd.V_alloc | apply Kd.V_drewN | apply Kd.V_drew)); exact HO0_2.out) (Kd.R_base ho11) hb)
   have n1_ := mk_ (Kd.R_lower (Kd.R_newM (M := fun k_ => (w.heap.size ≤ k_)) ho11 (below_size (us_ HB.out)) (fun k_ h_ => h_)) (below_size (us_ HB.out)))
   have n2_ := mk_ (blk_below (u_ BK186.out) hb)
   have n3_ := mk_ (below_step (us_ HB.out) hb)
   have z_HO193 := fun (h0_ : b 6 = true) (h1_ : b 14 = false) => (show Kd.R (Kd.int .u8) 5 w10 w.heap.size (fun k_ => (w.heap.size ≤ k_)) v192 t191 from by first | exact (Kd.R_elder' (by (with_reducible repeat (first | apply Kd.R_alloc | apply Kd.R_drewN | apply Kd.R_drew)); exact (Q_HO193 h0_ h1_)) (Kd.R_base ho11) hb) | exact Kd.R_mono (Kd.R_elder' (by (with_reducible repeat (first | apply Kd.R_alloc | apply Kd.R_drewN | apply Kd.R_drew)); exact (Q_HO193 h0_ h1_)) (Kd.R_base ho11) hb) (fun _ h_ => by first | trivial | exact h_ | exact h_.1))
   have z_HO196 := fun (h0_ : b 11 = true) (h1_ : b 14 = false) => (show Kd.R (Kd.int .u8) 5 w10 w.heap.size (fun k_ => (w.heap.size ≤ k_)) v195 y194 from by first | exact (Kd.R_elder' (by (with_reducible repeat (first | apply Kd.R_alloc | apply Kd.R_drewN | apply Kd.R_drew)); exact (Q_HO196 h0_ h1_)) (Kd.R_base ho11) hb) | exact Kd.R_mono (Kd.R_elder' (by (with_reducible repeat (first | apply Kd.R_alloc | apply Kd.R_drewN | apply Kd.R_drew)); exact (Q_HO196 h0_ h1_)) (Kd.R_base ho11) hb) (fun _ h_ => by first | trivial | exact h_ | exact h_.1))
   clear HO0_2
   clear BK186
   clear HB
   have HO0_2 := n0_
   have HO190 := n1_
   have BK186 := n2_
   have HB := n3_
   clear n0_ n1_ n2_ n3_
   clear hb ho11
   refine hK.out _ _ ⟨v189, v192, v195, v198, v201, m16_, (by rw [ha.out]; exact putSel_upk 2 hb_ rfl rfl rfl), (by (with_reducible repeat (first | apply Kd.V_alloc | apply Kd.V_drewN | apply Kd.V_drew)); exact Kd.V_mono HO0_2.out (fun _ hk => by first | exact ⟨hk.1.1, ⟨hk.2, hk.1.2⟩⟩ | exact hk.1 | exact hk | exact ⟨hk.1, hk.2⟩ | exact ⟨.inr hk.1, hk.2⟩ | simp only [hk, ne_eq, not_false_eq_true, and_self])), (u_ BK186.out), (us_ HB.out), fun _ _ => (by (with_reducible repeat (first | apply Kd.R_alloc | apply Kd.R_drewN | apply Kd.R_drew)); exact Kd.R_mono HO190.out (fun _ hk => hk.1)), z_HO193, z_HO196, fun h0_ => absurd ((hoff 14 (by kernel_rfl)).symm.trans h0_) (by decide), fun h0_ => absurd ((hoff 15 (by kernel_rfl)).symm.trans h0_) (by decide), fun h0_ => absurd ((hoff 16 (by kernel_rfl)).symm.trans h0_) (by decide)⟩
  refine steps_cons ?_ ?_
  ·rintro b a w' ⟨v189, v192, v195, v198, v201, m16_, ha, Q_HO0_2, Q_BK186, Q_HB, Q_HO190, Q_HO193, Q_HO196, Q_HO199, Q_HO202, Q_X16_⟩ hb_ hon hoff
   refine ⟨_, rfl, fun K hK => ?_⟩
   have e10 : a.tmps[10]? = some (.pointer (some ⟨gb186, 1, none⟩)) := by rw [ha]; exact (putSel_off rfl).trans rfl
   replace ha := mk_ ha
   have HO0_2 := mk_ Q_HO0_2
   have BK186 := mk_ Q_BK186
   have HB := mk_ Q_HB
   have hc0_ : w'.cell? ⟨gb186, 0, none⟩ = some (.int .i64 a0_0) := (blk_cell BK186.out 0).trans rfl
   have hc1_ : w'.cell? ⟨gb186, 1, none⟩ = some (.int .i64 a0_1) := (blk_cell BK186.out 1).trans rfl
   have hc2_ : w'.cell? ⟨gb186, 2, none⟩ = some (.slice A0_2 l0_2.length c0_2) := (blk_cell BK186.out 2).trans rfl
   refine value_ (w1 := w') (v := .int .i64 a0_1) (by rfl) rfl ?_ ?_
   ·go_simp
    (try simp only [i64_w])
    try rfl
   refine hK.out _ _ ⟨v189, v192, v195, v198, v201, m16_, (by rw [ha.out]; exact putSel_upk 3 hb_ rfl rfl rfl), Q_HO0_2, Q_BK186, Q_HB, Q_HO190, fun h0_ _ => absurd ((hoff 6 (by kernel_rfl)).symm.trans h0_) (by decide), Q_HO196, fun h0_ => absurd ((hoff 14 (by kernel_rfl)).symm.trans h0_) (by decide), fun h0_ => absurd ((hoff 15 (by kernel_rfl)).symm.trans h0_) (by decide), fun h0_ => absurd ((hoff 16 (by kernel_rfl)).symm.trans h0_) (by decide)⟩
  refine steps_cons ?_ ?_
  ·rintro b a w' ⟨v189, v192, v195, v198, v201, m16_, ha, Q_HO0_2, Q_BK186, Q_HB, Q_HO190, Q_HO193, Q_HO196, Q_HO199, Q_HO202, Q_X16_⟩ hb_ hon hoff
   refine ⟨_, rfl, fun K hK => ?_⟩
   have e11 : a.tmps[11]? = some (.int .i64 a0_1) := by rw [ha]; exact putSel_on (e := (5, 11, .int .i64 a0_1)) 3 rfl rfl (hon 5 (by kernel_rfl)) rfl
   replace ha := mk_ ha
   have HO0_2 := mk_ Q_HO0_2
   have BK186 := mk_ Q_BK186
   have HB := mk_ Q_HB
   refine goes_ Try.func51 (by kernel_rfl) rfl #[.int .i64 a0_1, .int .i64 2] (by rfl) rfl rfl (by first | (simp only [List.map_toArray, List.map_cons, List.map_nil, Act.eval, Array.getD_eq_getD_getElem?, Option.getD_some, e11]; done) | (simp only [List.map_toArray, List.map_cons, List.map_nil, Act.eval, Array.getD_eq_getD_getElem?, Option.getD_some, e11]; rfl)) ?_
   with_reducible refine (impl_bytesOf.calls k a0_1 2 t191 _ A4.out).mono ?_
   rintro e w10 ⟨v192, rfl, ho0, hb⟩
   refine ⟨_, rfl, ?_⟩
   have n0_ := mk_ (Kd.V_elder' (by (with_reducible repeat (first | apply Kd.V_alloc | apply Kd.V_drewN | apply Kd.V_drew)); exact HO0_2.out) (Kd.R_base ho0) hb)
   have n1_ := mk_ (Kd.R_lower (Kd.R_newM (M := fun k_ => (w.heap.size ≤ k_)) ho0 (below_size (us_ HB.out)) (fun k_ h_ => h_)) (below_size (us_ HB.out)))
   have n2_ := mk_ (blk_below (u_ BK186.out) hb)
   have n3_ := mk_ (below_step (us_ HB.out) hb)
   have z_HO190 := fun (h0_ : b 3 = true) (h1_ : b 14 = false) => (show Kd.R (Kd.int .u8) 5 w10 w.heap.size (fun k_ => (w.heap.size ≤ k_)) v189 y188 from by first | exact (Kd.R_elder' (by (with_reducible repeat (first | apply Kd.R_alloc | apply Kd.R_drewN | apply Kd.R_drew)); exact (Q_HO190 h0_ h1_)) (Kd.R_base ho0) hb) | exact Kd.R_mono (Kd.R_elder' (by (with_reducible repeat (first | apply Kd.R_alloc | apply Kd.R_drewN | apply Kd.R_drew)); exact (Q_HO190 h0_ h1_)) (Kd.R_base ho0) hb) (fun _ h_ => by first | trivial | exact h_ | exact h_.1))
   have z_HO196 := fun (h0_ : b 11 = true) (h1_ : b 14 = false) => (show Kd.R (Kd.int .u8) 5 w10 w.heap.size (fun k_ => (w.heap.size ≤ k_)) v195 y194 from by first | exact (Kd.R_elder' (by (with_reducible repeat (first | apply Kd.R_alloc | apply Kd.R_drewN | apply Kd.R_drew)); exact (Q_HO196 h0_ h1_)) (Kd.R_base ho0) hb) | exact Kd.R_mono (Kd.R_elder' (by (with_reducible repeat (first | apply Kd.R_alloc | apply Kd.R_drewN | apply Kd.R_drew)); exact (Q_HO196 h0_ h1_)) (Kd.R_base ho0) hb) (fun _ h_ => by first | trivial | exact h_ | exact h_.1))
   clear HO0_2
   clear BK186
   clear HB
   have HO0_2 := n0_
   have HO193 := n1_
   have BK186 := n2_
   have HB := n3_
   clear n0_ n1_ n2_ n3_
   (try clear hb)
   (try clear hb2)
   (try clear hk)
   (try clear hi)
   (try clear ho0)
   refine hK.out _ _ ⟨v189, v192, v195, v198, v201, m16_, (by rw [ha.out]; exact putSel_upk 4 hb_ rfl rfl rfl), (by (with_reducible repeat (first | apply Kd.V_alloc | apply Kd.V_drewN | apply Kd.V_drew)); exact Kd.V_mono HO0_2.out (fun _ hk => by first | exact ⟨hk.1.1, ⟨hk.2, hk.1.2⟩⟩ | exact hk.1 | exact hk | exact ⟨hk.1, hk.2⟩ | exact ⟨.inr hk.1, hk.2⟩ | simp only [hk, ne_eq, not_false_eq_true, and_self])), (u_ BK186.out), (us_ HB.out), z_HO190, fun _ _ => (by (with_reducible repeat (first | apply Kd.R_alloc | apply Kd.R_drewN | apply Kd.R_drew)); exact Kd.R_mono HO193.out (fun _ hk => hk.1)), z_HO196, fun h0_ => absurd ((hoff 14 (by kernel_rfl)).symm.trans h0_) (by decide), fun h0_ => absurd ((hoff 15 (by kernel_rfl)).symm.trans h0_) (by decide), fun h0_ => absurd ((hoff 16 (by kernel_rfl)).symm.trans h0_) (by decide)⟩
  refine steps_cons ?_ ?_
  ·rintro b a w' ⟨v189, v192, v195, v198, v201, m16_, ha, Q_HO0_2, Q_BK186, Q_HB, Q_HO190, Q_HO193, Q_HO196, Q_HO199, Q_HO202, Q_X16_⟩ hb_ hon hoff
   refine ⟨_, rfl, fun K hK => ?_⟩
   have e13 : a.tmps[13]? = some (.pointer (some ⟨gb186, 2, none⟩)) := by rw [ha]; exact (putSel_off rfl).trans rfl
   replace ha := mk_ ha
   have HO0_2 := mk_ Q_HO0_2
   have BK186 := mk_ Q_BK186
   have HB := mk_ Q_HB
   have hc0_ : w'.cell? ⟨gb186, 0, none⟩ = some (.int .i64 a0_0) := (blk_cell BK186.out 0).trans rfl
   have hc1_ : w'.cell? ⟨gb186, 1, none⟩ = some (.int .i64 a0_1) := (blk_cell BK186.out 1).trans rfl
   have hc2_ : w'.cell? ⟨gb186, 2, none⟩ = some (.slice A0_2 l0_2.length c0_2) := (blk_cell BK186.out 2).trans rfl
   refine value_ (w1 := w') (v := .slice A0_2 l0_2.length c0_2) (by rfl) rfl ?_ ?_
   ·go_simp
    (try simp only [i64_w])
    try rfl
   refine hK.out _ _ ⟨v189, v192, v195, v198, v201, m16_, (by rw [ha.out]; exact putSel_upk 5 hb_ rfl rfl rfl), Q_HO0_2, Q_BK186, Q_HB, Q_HO190, Q_HO193, fun h0_ _ => absurd ((hoff 11 (by kernel_rfl)).symm.trans h0_) (by decide), fun h0_ => absurd ((hoff 14 (by kernel_rfl)).symm.trans h0_) (by decide), fun h0_ => absurd ((hoff 15 (by kernel_rfl)).symm.trans h0_) (by decide), fun h0_ => absurd ((hoff 16 (by kernel_rfl)).symm.trans h0_) (by decide)⟩
  refine steps_cons ?_ ?_
  ·rintro b a w' ⟨v189, v192, v195, v198, v201, m16_, ha, Q_HO0_2, Q_BK186, Q_HB, Q_HO190, Q_HO193, Q_HO196, Q_HO199, Q_HO202, Q_X16_⟩ hb_ hon hoff
   refine ⟨_, rfl, fun K hK => ?_⟩
   have e14 : a.tmps[14]? = some (.slice A0_2 l0_2.length c0_2) := by rw [ha]; exact putSel_on (e := (8, 14, .slice A0_2 l0_2.length c0_2)) 5 rfl rfl (hon 8 (by kernel_rfl)) rfl
   replace ha := mk_ ha
   have HO0_2 := mk_ Q_HO0_2
   have BK186 := mk_ Q_BK186
   have HB := mk_ Q_HB
   refine value_ (w1 := w') (v := .int .i64 (l0_2.length : Int)) (by rfl) rfl ?_ ?_
   ·go_simp
    (try simp only [i64_w])
    try rfl
   refine hK.out _ _ ⟨v189, v192, v195, v198, v201, m16_, (by rw [ha.out]; exact putSel_upk 6 hb_ rfl rfl rfl), Q_HO0_2, Q_BK186, Q_HB, Q_HO190, Q_HO193, fun h0_ _ => absurd ((hoff 11 (by kernel_rfl)).symm.trans h0_) (by decide), fun h0_ => absurd ((hoff 14 (by kernel_rfl)).symm.trans h0_) (by decide), fun h0_ => absurd ((hoff 15 (by kernel_rfl)).symm.trans h0_) (by decide), fun h0_ => absurd ((hoff 16 (by kernel_rfl)).symm.trans h0_) (by decide)⟩
  refine steps_cons ?_ ?_
  ·rintro b a w' ⟨v189, v192, v195, v198, v201, m16_, ha, Q_HO0_2, Q_BK186, Q_HB, Q_HO190, Q_HO193, Q_HO196, Q_HO199, Q_HO202, Q_X16_⟩ hb_ hon hoff
   refine ⟨_, rfl, fun K hK => ?_⟩
   have e15 : a.tmps[15]? = some (.int .i64 (l0_2.length : Int)) := by rw [ha]; exact putSel_on (e := (9, 15, .int .i64 (l0_2.length : Int))) 6 rfl rfl (hon 9 (by kernel_rfl)) rfl
   replace ha := mk_ ha
   have HO0_2 := mk_ Q_HO0_2
   have BK186 := mk_ Q_BK186
   have HB := mk_ Q_HB
   refine value_ (w1 := w') (v := .int .u8 (((l0_2.length : Int)) % 256)) (by rfl) rfl ?_ ?_
   ·go_simp
    (try simp only [i64_w])
    try rfl
   refine hK.out _ _ ⟨v189, v192, v195, v198, v201, m16_, (by rw [ha.out]; exact putSel_upk 7 hb_ rfl rfl rfl), Q_HO0_2, Q_BK186, Q_HB, Q_HO190, Q_HO193, fun h0_ _ => absurd ((hoff 11 (by kernel_rfl)).symm.trans h0_) (by decide), fun h0_ => absurd ((hoff 14 (by kernel_rfl)).symm.trans h0_) (by decide), fun h0_ => absurd ((hoff 15 (by kernel_rfl)).symm.trans h0_) (by decide), fun h0_ => absurd ((hoff 16 (by kernel_rfl)).symm.trans h0_) (by decide)⟩
  refine steps_cons ?_ ?_
  ·rintro b a w' ⟨v189, v192, v195, v198, v201, m16_, ha, Q_HO0_2, Q_BK186, Q_HB, Q_HO190, Q_HO193, Q_HO196, Q_HO199, Q_HO202, Q_X16_⟩ hb_ hon hoff
   refine ⟨_, rfl, fun K hK => ?_⟩
   have e16 : a.tmps[16]? = some (.int .u8 (((l0_2.length : Int)) % 256)) := by rw [ha]; exact putSel_on (e := (10, 16, .int .u8 (((l0_2.length : Int)) % 256))) 7 rfl rfl (hon 10 (by kernel_rfl)) rfl
   replace ha := mk_ ha
   have HO0_2 := mk_ Q_HO0_2
   have BK186 := mk_ Q_BK186
   have HB := mk_ Q_HB
   refine Kd.R_lit_step (Kd.int .u8) _ 5 ?hg (N := 17) ?hd (xs := ([((l0_2.length : Int)) % 256] : List Int)) (inner := [.int .u8 (((l0_2.length : Int)) % 256)]) (ok := fun _ => True) (okp := fun _ => True) ?hr ?hp (fun _ hk => hk) trivial (Below.refl _ _) (Nat.le_refl _) (by simp) ?_; (case hd => rfl); (case hg => rfl); (case hr => first | (go_simp; done) | (go_simp; rfl)); (case hp => exact (Reps.one (show Kd.M (Kd.int .u8) _ _ _ (((l0_2.length : Int)) % 256) [.int .u8 (((l0_2.length : Int)) % 256)] from rfl) (Reps.none _ _)))
   intro v195 w10 ho11 hb hg_ hnew_
   clear hg_ hnew_
   (first | rw [← Ny194.out] at ho11 | (simp only [Int.reduceToNat] at ho11; rw [← Ny194.out] at ho11))
   have n0_ := mk_ (Kd.V_elder' (by (with_reducible repeat (first | apply Kd.V_alloc | apply Kd.V_drewN | apply Kd.V_drew)); exact HO0_2.out) (Kd.R_base ho11) hb)
   have n1_ := mk_ (Kd.R_lower (Kd.R_newM (M := fun k_ => (w.heap.size ≤ k_)) ho11 (below_size (us_ HB.out)) (fun k_ h_ => h_)) (below_size (us_ HB.out)))
   have n2_ := mk_ (blk_below (u_ BK186.out) hb)
   have n3_ := mk_ (below_step (us_ HB.out) hb)
   have z_HO190 := fun (h0_ : b 3 = true) (h1_ : b 14 = false) => (show Kd.R (Kd.int .u8) 5 w10 w.heap.size (fun k_ => (w.heap.size ≤ k_)) v189 y188 from by first | exact (Kd.R_elder' (by (with_reducible repeat (first | apply Kd.R_alloc | apply Kd.R_drewN | apply Kd.R_drew)); exact (Q_HO190 h0_ h1_)) (Kd.R_base ho11) hb) | exact Kd.R_mono (Kd.R_elder' (by (with_reducible repeat (first | apply Kd.R_alloc | apply Kd.R_drewN | apply Kd.R_drew)); exact (Q_HO190 h0_ h1_)) (Kd.R_base ho11) hb) (fun _ h_ => by first | trivial | exact h_ | exact h_.1))
   have z_HO193 := fun (h0_ : b 6 = true) (h1_ : b 14 = false) => (show Kd.R (Kd.int .u8) 5 w10 w.heap.size (fun k_ => (w.heap.size ≤ k_)) v192 t191 from by first | exact (Kd.R_elder' (by (with_reducible repeat (first | apply Kd.R_alloc | apply Kd.R_drewN | apply Kd.R_drew)); exact (Q_HO193 h0_ h1_)) (Kd.R_base ho11) hb) | exact Kd.R_mono (Kd.R_elder' (by (with_reducible repeat (first | apply Kd.R_alloc | apply Kd.R_drewN | apply Kd.R_drew)); exact (Q_HO193 h0_ h1_)) (Kd.R_base ho11) hb) (fun _ h_ => by first | trivial | exact h_ | exact h_.1))
   clear HO0_2
   clear BK186
   clear HB
   have HO0_2 := n0_
   have HO196 := n1_
   have BK186 := n2_
   have HB := n3_
   clear n0_ n1_ n2_ n3_
   clear hb ho11
   refine hK.out _ _ ⟨v189, v192, v195, v198, v201, m16_, (by rw [ha.out]; exact putSel_upk 8 hb_ rfl rfl rfl), (by (with_reducible repeat (first | apply Kd.V_alloc | apply Kd.V_drewN | apply Kd.V_drew)); exact Kd.V_mono HO0_2.out (fun _ hk => by first | exact ⟨hk.1.1, ⟨hk.2, hk.1.2⟩⟩ | exact hk.1 | exact hk | exact ⟨hk.1, hk.2⟩ | exact ⟨.inr hk.1, hk.2⟩ | simp only [hk, ne_eq, not_false_eq_true, and_self])), (u_ BK186.out), (us_ HB.out), z_HO190, z_HO193, fun _ _ => (by (with_reducible repeat (first | apply Kd.R_alloc | apply Kd.R_drewN | apply Kd.R_drew)); exact Kd.R_mono HO196.out (fun _ hk => hk.1)), fun h0_ => absurd ((hoff 14 (by kernel_rfl)).symm.trans h0_) (by decide), fun h0_ => absurd ((hoff 15 (by kernel_rfl)).symm.trans h0_) (by decide), fun h0_ => absurd ((hoff 16 (by kernel_rfl)).symm.trans h0_) (by decide)⟩
  refine steps_cons ?_ ?_
  ·rintro b a w' ⟨v189, v192, v195, v198, v201, m16_, ha, Q_HO0_2, Q_BK186, Q_HB, Q_HO190, Q_HO193, Q_HO196, Q_HO199, Q_HO202, Q_X16_⟩ hb_ hon hoff
   refine ⟨_, rfl, fun K hK => ?_⟩
   have e18 : a.tmps[18]? = some (.pointer (some ⟨gb186, 2, none⟩)) := by rw [ha]; exact (putSel_off rfl).trans rfl
   replace ha := mk_ ha
   have HO0_2 := mk_ Q_HO0_2
   have BK186 := mk_ Q_BK186
   have HB := mk_ Q_HB
   have hc0_ : w'.cell? ⟨gb186, 0, none⟩ = some (.int .i64 a0_0) := (blk_cell BK186.out 0).trans rfl
   have hc1_ : w'.cell? ⟨gb186, 1, none⟩ = some (.int .i64 a0_1) := (blk_cell BK186.out 1).trans rfl
   have hc2_ : w'.cell? ⟨gb186, 2, none⟩ = some (.slice A0_2 l0_2.length c0_2) := (blk_cell BK186.out 2).trans rfl
   refine value_ (w1 := w') (v := .slice A0_2 l0_2.length c0_2) (by rfl) rfl ?_ ?_
   ·go_simp
    (try simp only [i64_w])
    try rfl
   refine hK.out _ _ ⟨v189, v192, v195, v198, v201, m16_, (by rw [ha.out]; exact putSel_upk 9 hb_ rfl rfl rfl), Q_HO0_2, Q_BK186, Q_HB, Q_HO190, Q_HO193, Q_HO196, fun h0_ => absurd ((hoff 14 (by kernel_rfl)).symm.trans h0_) (by decide), fun h0_ => absurd ((hoff 15 (by kernel_rfl)).symm.trans h0_) (by decide), fun h0_ => absurd ((hoff 16 (by kernel_rfl)).symm.trans h0_) (by decide)⟩
  refine steps_cons ?_ ?_
  ·rintro b a w' ⟨v189, v192, v195, v198, v201, m16_, ha, Q_HO0_2, Q_BK186, Q_HB, Q_HO190, Q_HO193, Q_HO196, Q_HO199, Q_HO202, Q_X16_⟩ hb_ hon hoff
   refine ⟨_, rfl, fun K hK => ?_⟩
   have e9 : a.tmps[9]? = some (v189) := by rw [ha]; exact putSel_on (e := (3, 9, v189)) 2 rfl rfl (hon 3 (by kernel_rfl)) rfl
   have e12 : a.tmps[12]? = some (v192) := by rw [ha]; exact putSel_on (e := (6, 12, v192)) 4 rfl rfl (hon 6 (by kernel_rfl)) rfl
   have e17 : a.tmps[17]? = some (v195) := by rw [ha]; exact putSel_on (e := (11, 17, v195)) 8 rfl rfl (hon 11 (by kernel_rfl)) rfl
   have e19 : a.tmps[19]? = some (.slice A0_2 l0_2.length c0_2) := by rw [ha]; exact putSel_on (e := (13, 19, .slice A0_2 l0_2.length c0_2)) 9 rfl rfl (hon 13 (by kernel_rfl)) rfl
   replace ha := mk_ ha
   have HO0_2 := mk_ Q_HO0_2
   have BK186 := mk_ Q_BK186
   have HB := mk_ Q_HB
   have HO190 := mk_ (Q_HO190 (hon 3 (by kernel_rfl)) hb_)
   have HO193 := mk_ (Q_HO193 (hon 6 (by kernel_rfl)) hb_)
   have HO196 := mk_ (Q_HO196 (hon 11 (by kernel_rfl)) hb_)
   obtain ⟨Ao16, co16, eo16⟩ := Kd.R_slice HO190.out
   (first | subst eo16 | (injection eo16 with f1_ f2_ f3_; have f4_ := f1_.symm; have f5_ := f3_.symm; clear f1_ f2_ f3_; subst f4_; subst f5_))
   obtain ⟨Ao17, co17, eo17⟩ := Kd.R_slice HO193.out
   (first | subst eo17 | (injection eo17 with f1_ f2_ f3_; have f4_ := f1_.symm; have f5_ := f3_.symm; clear f1_ f2_ f3_; subst f4_; subst f5_))
   obtain ⟨Ao18, co18, eo18⟩ := Kd.R_slice HO196.out
   (first | subst eo18 | (injection eo18 with f1_ f2_ f3_; have f4_ := f1_.symm; have f5_ := f3_.symm; clear f1_ f2_ f3_; subst f4_; subst f5_))
   refine Kd.N_lit_step (Kd.slice 5 (Kd.int .u8)) _ 22 ?hg (N' := 20) ?hd (xs := ([y188, t191, y194, l0_2] : List (List Int))) (inner := [.slice Ao16 y188.length co16, .slice Ao17 t191.length co17, .slice Ao18 y194.length co18, .slice A0_2 l0_2.length c0_2]) (ok := (fun k_ => (P0_2_ k_ ∨ w.heap.size ≤ k_) ∧ k_ ≠ gb186)) (okp := (fun k_ => (P0_2_ k_ ∨ w.heap.size ≤ k_) ∧ k_ ≠ gb186)) ?hr ?hp (fun _ hk => hk) ((show ∀ k_, w'.heap.size ≤ k_ → (fun k_ => (P0_2_ k_ ∨ w.heap.size ≤ k_) ∧ k_ ≠ gb186) k_ from fun k_ hk => ⟨(.inr (Nat.le_trans (below_size (us_ HB.out)) hk)), Kd.freshB (g := gb186) (o := .cells #[.int .i64 a0_0, .int .i64 a0_1, .slice A0_2 l0_2.length c0_2] 31 (0, 0)) (u_ BK186.out) k_ hk⟩) _ (Nat.le_refl _)) (Below.refl _ _) (Nat.le_refl _) (by simp) ?_; (case hd => rfl); (case hg => rfl); (case hr => first | (go_simp; done) | (go_simp; rfl)); (case hp => exact (Reps.one (show Kd.FK (Kd.slice 5 (Kd.int .u8)) _ _ y188 [.slice Ao16 y188.length co16] from (Kd.FK_slice_mk (Kd.R_reads' (Kd.R_mono (ok' := (fun k_ => (P0_2_ k_ ∨ w.heap.size ≤ k_) ∧ k_ ≠ gb186)) (Kd.R_types (HO190.out) BK186.out (by decide)) (fun k_ hk => by first | exact ⟨(.inr (hk.1.1)), hk.2⟩ | exact hk.1 | exact hk | exact ⟨hk.1, hk.2⟩ | exact ⟨.inr hk.1, hk.2⟩ | simp only [hk, ne_eq, not_false_eq_true, and_self]))).2.1 (Kd.R_F (Kd.R_mono (ok' := (fun k_ => (P0_2_ k_ ∨ w.heap.size ≤ k_) ∧ k_ ≠ gb186)) (Kd.R_types (HO190.out) BK186.out (by decide)) (fun k_ hk => by first | exact ⟨(.inr (hk.1.1)), hk.2⟩ | exact hk.1 | exact hk | exact ⟨hk.1, hk.2⟩ | exact ⟨.inr hk.1, hk.2⟩ | simp only [hk, ne_eq, not_false_eq_true, and_self]))))) (Reps.one (show Kd.FK (Kd.slice 5 (Kd.int .u8)) _ _ t191 [.slice Ao17 t191.length co17] from (Kd.FK_slice_mk (Kd.R_reads' (Kd.R_mono (ok' := (fun k_ => (P0_2_ k_ ∨ w.heap.size ≤ k_) ∧ k_ ≠ gb186)) (Kd.R_types (HO193.out) BK186.out (by decide)) (fun k_ hk => by first | exact ⟨(.inr (hk.1.1)), hk.2⟩ | exact hk.1 | exact hk | exact ⟨hk.1, hk.2⟩ | exact ⟨.inr hk.1, hk.2⟩ | simp only [hk, ne_eq, not_false_eq_true, and_self]))).2.1 (Kd.R_F (Kd.R_mono (ok' := (fun k_ => (P0_2_ k_ ∨ w.heap.size ≤ k_) ∧ k_ ≠ gb186)) (Kd.R_types (HO193.out) BK186.out (by decide)) (fun k_ hk => by first | exact ⟨(.inr (hk.1.1)), hk.2⟩ | exact hk.1 | exact hk | exact ⟨hk.1, hk.2⟩ | exact ⟨.inr hk.1, hk.2⟩ | simp only [hk, ne_eq, not_false_eq_true, and_self]))))) (Reps.one (show Kd.FK (Kd.slice 5 (Kd.int .u8)) _ _ y194 [.slice Ao18 y194.length co18] from (Kd.FK_slice_mk (Kd.R_reads' (Kd.R_mono (ok' := (fun k_ => (P0_2_ k_ ∨ w.heap.size ≤ k_) ∧ k_ ≠ gb186)) (Kd.R_types (HO196.out) BK186.out (by decide)) (fun k_ hk => by first | exact ⟨(.inr (hk.1.1)), hk.2⟩ | exact hk.1 | exact hk | exact ⟨hk.1, hk.2⟩ | exact ⟨.inr hk.1, hk.2⟩ | simp only [hk, ne_eq, not_false_eq_true, and_self]))).2.1 (Kd.R_F (Kd.R_mono (ok' := (fun k_ => (P0_2_ k_ ∨ w.heap.size ≤ k_) ∧ k_ ≠ gb186)) (Kd.R_types (HO196.out) BK186.out (by decide)) (fun k_ hk => by first | exact ⟨(.inr (hk.1.1)), hk.2⟩ | exact hk.1 | exact hk | exact ⟨hk.1, hk.2⟩ | exact ⟨.inr hk.1, hk.2⟩ | simp only [hk, ne_eq, not_false_eq_true, and_self]))))) (Reps.one (show Kd.FK (Kd.slice 5 (Kd.int .u8)) _ _ l0_2 [.slice A0_2 l0_2.length c0_2] from (Kd.FK_slice_mk (Kd.V_reads' (Kd.V_mono (ok' := (fun k_ => (P0_2_ k_ ∨ w.heap.size ≤ k_) ∧ k_ ≠ gb186)) (HO0_2.out) (fun k_ hk => by first | exact ⟨hk.1, hk.2.2.2.2⟩ | exact hk.1 | exact hk | exact ⟨hk.1, hk.2⟩ | exact ⟨.inr hk.1, hk.2⟩ | simp only [hk, ne_eq, not_false_eq_true, and_self]))).2.1 (Kd.V_F (Kd.V_mono (ok' := (fun k_ => (P0_2_ k_ ∨ w.heap.size ≤ k_) ∧ k_ ≠ gb186)) (HO0_2.out) (fun k_ hk => by first | exact ⟨hk.1, hk.2.2.2.2⟩ | exact hk.1 | exact hk | exact ⟨hk.1, hk.2⟩ | exact ⟨.inr hk.1, hk.2⟩ | simp only [hk, ne_eq, not_false_eq_true, and_self]))))) (Reps.none _ _))))))
   intro v198 w19 ho20 hb hg_ hnew_
   clear hg_ hnew_
   (first | rw [← Ny197.out] at ho20 | (simp only [Int.reduceToNat] at ho20; rw [← Ny197.out] at ho20))
   have n0_ := mk_ (Kd.V_elder' (by (with_reducible repeat (first | apply Kd.V_alloc | apply Kd.V_drewN | apply Kd.V_drew)); exact HO0_2.out) (Kd.N_base ho20) hb)
   have n1_ := mk_ (Kd.N_lower ho20 (below_size (us_ HB.out)))
   have n2_ := mk_ (blk_below (u_ BK186.out) hb)
   have n3_ := mk_ (below_step (us_ HB.out) hb)
   clear HO0_2
   clear BK186
   clear HB
   clear HO190
   clear HO193
   clear HO196
   have HO0_2 := n0_
   have HO199 := n1_
   have BK186 := n2_
   have HB := n3_
   clear n0_ n1_ n2_ n3_
   clear hb ho20
   refine hK.out _ _ ⟨.slice Ao16 y188.length co16, .slice Ao17 t191.length co17, .slice Ao18 y194.length co18, v198, v201, m16_, (by rw [ha.out]; exact putSel_upk 10 hb_ rfl rfl rfl), (by (with_reducible repeat (first | apply Kd.V_alloc | apply Kd.V_drewN | apply Kd.V_drew)); exact Kd.V_mono HO0_2.out (fun _ hk => by first | exact ⟨hk.1.1, ⟨hk.2, hk.1.2.2.2.2⟩⟩ | exact hk.1 | exact hk | exact ⟨hk.1, hk.2⟩ | exact ⟨.inr hk.1, hk.2⟩ | simp only [hk, ne_eq, not_false_eq_true, and_self])), (u_ BK186.out), (us_ HB.out), fun _ h1_ => absurd ((up_self b 14).symm.trans h1_) (by decide), fun _ h1_ => absurd ((up_self b 14).symm.trans h1_) (by decide), fun _ h1_ => absurd ((up_self b 14).symm.trans h1_) (by decide), fun _ => (by (with_reducible repeat (first | apply Kd.N_alloc | apply Kd.N_drewN | apply Kd.N_drew)); exact HO199.out), fun h0_ => absurd ((hoff 15 (by kernel_rfl)).symm.trans h0_) (by decide), fun h0_ => absurd ((hoff 16 (by kernel_rfl)).symm.trans h0_) (by decide)⟩
  refine steps_cons ?_ ?_
  ·rintro b a w' ⟨v189, v192, v195, v198, v201, m16_, ha, Q_HO0_2, Q_BK186, Q_HB, Q_HO190, Q_HO193, Q_HO196, Q_HO199, Q_HO202, Q_X16_⟩ hb_ hon hoff
   refine ⟨_, rfl, fun K hK => ?_⟩
   have e20 : a.tmps[20]? = some (v198) := by rw [ha]; exact putSel_on (e := (14, 20, v198)) 10 rfl rfl (hon 14 (by kernel_rfl)) rfl
   replace ha := mk_ ha
   have HO0_2 := mk_ Q_HO0_2
   have BK186 := mk_ Q_BK186
   have HB := mk_ Q_HB
   have HO199 := mk_ (Q_HO199 (hon 14 (by kernel_rfl)))
   obtain ⟨Ao21, co21, eo21⟩ := Kd.N_slice HO199.out
   (first | subst eo21 | (injection eo21 with f1_ f2_ f3_; have f4_ := f1_.symm; have f5_ := f3_.symm; clear f1_ f2_ f3_; subst f4_; subst f5_))
   refine goes_ Try.func50 (by kernel_rfl) rfl #[.slice Ao21 y197.length co21] (by rfl) rfl rfl (by first | (simp only [List.map_toArray, List.map_cons, List.map_nil, Act.eval, Array.getD_eq_getD_getElem?, Option.getD_some, e20]; done) | (simp only [List.map_toArray, List.map_cons, List.map_nil, Act.eval, Array.getD_eq_getD_getElem?, Option.getD_some, e20]; rfl)) ?_
   with_reducible refine (slices_Concat_byte_byte.calls _ _ y197 t200 _ ?side1 ?side2 A5.out).mono ?_
   (case side1 => repeat (first | exact (Kd.N_reads' HO199.out).2.2 | (with_reducible refine Kd.C_alloc ?_ _) | (with_reducible refine Kd.C_drewN ?_ _) | (with_reducible refine Kd.C_drew ?_)))
   (case side2 => exact (Kd.N_reads' HO199.out).2.1)
   rintro e w22 ⟨v201, rfl, ho0, hb⟩
   refine ⟨_, rfl, ?_⟩
   have n0_ := mk_ (Kd.V_elder' (by (with_reducible repeat (first | apply Kd.V_alloc | apply Kd.V_drewN | apply Kd.V_drew)); exact HO0_2.out) (Kd.R_base ho0) hb)
   have n1_ := mk_ (Kd.N_elder' (by (with_reducible repeat (first | apply Kd.N_alloc | apply Kd.N_drewN | apply Kd.N_drew)); exact HO199.out) (Kd.R_base ho0) hb)
   have n2_ := mk_ (Kd.R_lower (Kd.R_newM (M := fun k_ => (w.heap.size ≤ k_)) ho0 (below_size (us_ HB.out)) (fun k_ h_ => h_)) (below_size (us_ HB.out)))
   have n3_ := mk_ (blk_below (u_ BK186.out) hb)
   have n4_ := mk_ (below_step (us_ HB.out) hb)
   clear HO0_2
   clear HO199
   clear BK186
   clear HB
   have HO0_2 := n0_
   have HO199 := n1_
   have HO202 := n2_
   have BK186 := n3_
   have HB := n4_
   clear n0_ n1_ n2_ n3_ n4_
   (try clear hb)
   (try clear hb2)
   (try clear hk)
   (try clear hi)
   (try clear ho0)
   refine hK.out _ _ ⟨v189, v192, v195, .slice Ao21 y197.length co21, v201, m16_, (by rw [ha.out]; exact putSel_upk 11 hb_ rfl rfl rfl), (by (with_reducible repeat (first | apply Kd.V_alloc | apply Kd.V_drewN | apply Kd.V_drew)); exact Kd.V_mono HO0_2.out (fun _ hk => by first | exact ⟨hk.1.1, ⟨hk.1.2.1, ⟨hk.2, hk.1.2.2⟩⟩⟩ | exact hk.1 | exact hk | exact ⟨hk.1, hk.2⟩ | exact ⟨.inr hk.1, hk.2⟩ | simp only [hk, ne_eq, not_false_eq_true, and_self])), (u_ BK186.out), (us_ HB.out), fun _ h1_ => absurd ((hon 14 (by kernel_rfl)).symm.trans h1_) (by decide), fun _ h1_ => absurd ((hon 14 (by kernel_rfl)).symm.trans h1_) (by decide), fun _ h1_ => absurd ((hon 14 (by kernel_rfl)).symm.trans h1_) (by decide), fun _ => (by (with_reducible repeat (first | apply Kd.N_alloc | apply Kd.N_drewN | apply Kd.N_drew)); exact Kd.N_mono HO199.out (fun _ hk => by first | exact ⟨hk.1.1, ⟨hk.2, hk.1.2⟩⟩ | exact hk.1 | exact hk | exact ⟨hk.1, hk.2⟩ | exact ⟨.inr hk.1, hk.2⟩ | simp only [hk, ne_eq, not_false_eq_true, and_self])), fun _ => (by (with_reducible repeat (first | apply Kd.R_alloc | apply Kd.R_drewN | apply Kd.R_drew)); exact Kd.R_mono HO202.out (fun _ hk => hk.1)), fun h0_ => absurd ((hoff 16 (by kernel_rfl)).symm.trans h0_) (by decide)⟩
  refine steps_cons ?_ ?_
  ·rintro b a w' ⟨v189, v192, v195, v198, v201, m16_, ha, Q_HO0_2, Q_BK186, Q_HB, Q_HO190, Q_HO193, Q_HO196, Q_HO199, Q_HO202, Q_X16_⟩ hb_ hon hoff
   refine ⟨_, rfl, fun K hK => ?_⟩
   have e21 : a.tmps[21]? = some (v201) := by rw [ha]; exact putSel_on (e := (15, 21, v201)) 11 rfl rfl (hon 15 (by kernel_rfl)) rfl
   replace ha := mk_ ha
   have HO0_2 := mk_ Q_HO0_2
   have BK186 := mk_ Q_BK186
   have HB := mk_ Q_HB
   have HO199 := mk_ (Q_HO199 (hon 14 (by kernel_rfl)))
   have HO202 := mk_ (Q_HO202 (hon 15 (by kernel_rfl)))
   refine value_ (w1 := w') (v := v201) (by rfl) rfl ?_ ?_
   ·go_simp
    (try simp only [i64_w])
    try rfl
   refine hK.out _ _ ⟨v189, v192, v195, v198, v201, (v201), (by rw [ha.out]; exact putSel_upk 12 hb_ rfl rfl rfl), Q_HO0_2, Q_BK186, Q_HB, fun _ h1_ => absurd ((hon 14 (by kernel_rfl)).symm.trans h1_) (by decide), fun _ h1_ => absurd ((hon 14 (by kernel_rfl)).symm.trans h1_) (by decide), fun _ h1_ => absurd ((hon 14 (by kernel_rfl)).symm.trans h1_) (by decide), Q_HO199, Q_HO202, fun _ => rfl⟩
  exact steps_nil
 rintro b a w22 hall ⟨v189, v192, v195, v198, v201, m16_, ha, Q_HO0_2, Q_BK186, Q_HB, Q_HO190, Q_HO193, Q_HO196, Q_HO199, Q_HO202, Q_X16_⟩
 clear BK186 HB HO0_2
 have hb1_ := hall 1 (by kernel_rfl)
 have hb2_ := hall 2 (by kernel_rfl)
 have hb3_ := hall 3 (by kernel_rfl)
 have hb5_ := hall 5 (by kernel_rfl)
 have hb6_ := hall 6 (by kernel_rfl)
 have hb8_ := hall 8 (by kernel_rfl)
 have hb9_ := hall 9 (by kernel_rfl)
 have hb10_ := hall 10 (by kernel_rfl)
 have hb11_ := hall 11 (by kernel_rfl)
 have hb13_ := hall 13 (by kernel_rfl)
 have hb14_ := hall 14 (by kernel_rfl)
 have hb15_ := hall 15 (by kernel_rfl)
 have hb16_ := hall 16 (by kernel_rfl)
 subst ha
 obtain rfl := Q_X16_ hb16_
 simp only [putSel, hb1_, hb2_, hb3_, hb5_, hb6_, hb8_, hb9_, hb10_, hb11_, hb13_, hb14_, hb15_, hb16_, if_true, Act.put, la_, lz_, ls_]
 have HO0_2 := mk_ Q_HO0_2
 clear Q_HO0_2
 have BK186 := mk_ Q_BK186
 clear Q_BK186
 have HB := mk_ Q_HB
 clear Q_HB
 clear Q_HO190
 clear Q_HO193
 clear Q_HO196
 have HO199 := mk_ (Q_HO199 hb14_)
 clear Q_HO199
 have HO202 := mk_ (Q_HO202 hb15_)
 clear Q_HO202
 clear hall hb1_ hb2_ hb3_ hb5_ hb6_ hb8_ hb9_ hb10_ hb11_ hb13_ hb14_ hb15_ hb16_
 try go_wp2
 go_ret
 exact ⟨_, by first | rfl | (simp [errW_none, errW_some] <;> rfl) | (simp [*, errW_none, errW_some] <;> rfl), by (with_reducible repeat (first | apply Kd.R_alloc | apply Kd.R_drewN | apply Kd.R_drew)); exact HO202.out, us_ HB.out⟩

/-! ### laws_sameBytes: function 15 -/
def laws_sameBytes.f (l0 : List Int) (l1 : List Int) : Option (Bool) := some ((strOfNums l0).toList == (strOfNums l1).toList)
set_option maxHeartbeats 8000000 in
set_option maxRecDepth 100000 in
theorem laws_sameBytes.calls (A0 : Option Addr) (c0 : Nat) (l0 : List Int) (A1 : Option Addr) (c1 : Nat) (l1 : List Int) (r : Bool) (w : World) (hr0 : Kd.C (Kd.int .u8) w A0 l0.length l0) (hc0 : l0.length ≤ c0) (hr1 : Kd.C (Kd.int .u8) w A1 l1.length l1) (hc1 : l1.length ≤ c1) (h : laws_sameBytes.f l0 l1 = some r) :
  Calls Try.prog 15 #[.slice A0 l0.length c0, .slice A1 l1.length c1] w fun e w' => e = .returned (.bool r) ∧ Drawn0 w w' := by
 have HR0 := mk_ hr0
 have HC0 := mk_ hc0
 clear hr0 hc0
 have HR1 := mk_ hr1
 have HC1 := mk_ hc1
 clear hr1 hc1
 have H : (some ((strOfNums l0).toList == (strOfNums l1).toList)) = some r := h
 clear h
 obtain rfl := Option.some.inj H
 have hcv3 := Kd.C_string (P := Try.prog) (A := A0) (c := c0) Try.underlying22 Try.underlying5 Try.underlying9 HR0.out
 have hcv4 := Kd.C_string (P := Try.prog) (A := A1) (c := c1) Try.underlying22 Try.underlying5 Try.underlying9 HR1.out
 go_enter Try.func15, Try.ntmps15
 go_wp2
 go_ret
 exact ⟨by first | rfl | (simp; done) | (simp [*]; done), by repeat (first | exact Drawn0.refl _ | apply Drawn0.step)⟩

/-! ### spec_l1In: function 47 -/
def spec_l1In.f (a0 : Int) (a1 : Int) (a2 : Int) : Option (Bool) := if a0 ≥ a1 then (some (decide (a0 ≤ a2))) else (some false)
set_option maxHeartbeats 8000000 in
set_option maxRecDepth 100000 in
theorem spec_l1In.calls (a0 : Int) (a1 : Int) (a2 : Int) (r : Bool) (w : World) (h : spec_l1In.f a0 a1 a2 = some r) :
  Calls Try.prog 47 #[.int .i64 a0, .int .i64 a1, .int .i64 a2] w fun e w' => e = .returned (.bool r) ∧ Drawn0 w w' := by
 have H : (if a0 ≥ a1 then (some (decide (a0 ≤ a2))) else (some false)) = some r := h
 clear h
 by_cases c4 : a0 ≥ a1
 ·rw [if_pos c4] at H
  have c4b0 : decide (a1 ≤ a0) = true := decide_eq_true c4
  clear c4
  obtain rfl := Option.some.inj H
  go_enter Try.func47, Try.ntmps47
  go_wp2
  go_ret
  exact ⟨by first | rfl | (simp; done) | (simp [*]; done), by repeat (first | exact Drawn0.refl _ | apply Drawn0.step)⟩
 rw [if_neg c4] at H
 have c4b0 : decide (a1 ≤ a0) = false := decide_eq_false c4
 clear c4
 obtain rfl := Option.some.inj H
 go_enter Try.func47, Try.ntmps47
 go_wp2
 go_ret
 exact ⟨by first | rfl | (simp; done) | (simp [*]; done), by repeat (first | exact Drawn0.refl _ | apply Drawn0.step)⟩

/-! ### spec_NoteOk: function 52 -/
def spec_NoteOk.f (a0_0 : Int) (a0_1 : Int) (l0_2 : List Int) : Option (Bool) := (spec_l1In.f a0_0 1 6).bind fun t204 => (if t204 = true then ((spec_l1In.f a0_1 0 65535).bind fun t205 => (if t205 = true then (some (decide ((l0_2.length : Int) ≤ 20))) else (some false))) else (some false))
set_option maxHeartbeats 8000000 in
set_option maxRecDepth 100000 in
theorem spec_NoteOk.calls (a0_0 : Int) (a0_1 : Int) (A0_2 : Option Addr) (c0_2 : Nat) (l0_2 : List Int) (r : Bool) (w : World) (hr0_2 : Kd.C (Kd.int .u8) w A0_2 l0_2.length l0_2) (hc0_2 : l0_2.length ≤ c0_2) (h : spec_NoteOk.f a0_0 a0_1 l0_2 = some r) :
  Calls Try.prog 52 #[.agg #[.int .i64 a0_0, .int .i64 a0_1, .slice A0_2 l0_2.length c0_2]] w fun e w' => e = .returned (.bool r) ∧ Below w.heap.size w w' := by
 have hu31 := Try.underlying31
 have HR0_2 := mk_ hr0_2
 have HC0_2 := mk_ hc0_2
 clear hr0_2 hc0_2
 have HB := mk_ (Below.refl w.heap.size w)
 have H : ((spec_l1In.f a0_0 1 6).bind fun t204 => (if t204 = true then ((spec_l1In.f a0_1 0 65535).bind fun t205 => (if t205 = true then (some (decide ((l0_2.length : Int) ≤ 20))) else (some false))) else (some false))) = some r := h
 clear h
 replace H := Option.bind_eq_some_iff.mp H
 obtain ⟨t204, A20, H⟩ := H
 replace H : (if t204 = true then ((spec_l1In.f a0_1 0 65535).bind fun t205 => (if t205 = true then (some (decide ((l0_2.length : Int) ≤ 20))) else (some false))) else (some false)) = some r := H
 have A2 := mk_ A20
 clear A20
 by_cases c3 : t204 = true
 rotate_left
 ·replace c3 := Bool.eq_false_iff.mpr c3
  subst c3
  have H1 : (some false) = some r := by rw [if_neg (show ¬ (false = true) by decide)] at H; exact H
  clear H
  have H := H1
  clear H1
  obtain rfl := Option.some.inj H
  go_enter Try.func52, Try.ntmps52
  go_wp2_with (first | ((with_reducible refine gate_dst (N := 1) rfl ?_); refine box_event ?hg (N := 1) ?hd (cs := #[.int .i64 a0_0, .int .i64 a0_1, .slice A0_2 l0_2.length c0_2]) (t := 31) ?hr ?_; (case hd => rfl); (case hg => rfl); (case hr => first | (go_simp; done) | (go_simp; rfl)); intro gb203 hg w10 hbox hb; have n0_ := mk_ (below_step (ub_ HB.out) hb); have n1_ := mk_ (hbox); have n2_ := mk_ ((by rw [hg]; exact (below_size (ub_ HB.out)) : w.heap.size ≤ gb203)); have n3_ := mk_ ((by rw [hg]; exact (below_size (ub_ HB.out)) : w.heap.size ≤ gb203)); clear HB; have HB := n0_; have BK203 := n1_; have GW203 := n2_; have GE203 := ge_ n3_.out; clear n0_ n1_ n2_ n3_; clear hb hbox hg; have hcz11_0 : w10.cell? ⟨gb203, 0, none⟩ = some (.int .i64 a0_0) := (blk_cell BK203.out 0).trans rfl; have hcz11_1 : w10.cell? ⟨gb203, 1, none⟩ = some (.int .i64 a0_1) := (blk_cell BK203.out 1).trans rfl; have hcz11_2 : w10.cell? ⟨gb203, 2, none⟩ = some (.slice A0_2 l0_2.length c0_2) := (blk_cell BK203.out 2).trans rfl; have hfz11_0 := blk_frozen BK203.out 0; have hfz11_1 := blk_frozen BK203.out 1; have hfz11_2 := blk_frozen BK203.out 2) | ((with_reducible refine gate_callee (f := 47) rfl ?_); refine goesL_ (some 5) rfl rfl Try.func47 (by kernel_rfl) rfl #[.int .i64 a0_0, .int .i64 1, .int .i64 6] rfl (by (try simp only [lm_, lo_, ln_]); first | done | rfl | (simp only [List.length_drop, List.length_take]; rfl)) ?_; (with_reducible refine (spec_l1In.calls a0_0 1 6 false _ A2.out).mono ?_); rintro e w' ⟨rfl, ⟨nd, rfl⟩⟩; refine ⟨_, rfl, ?_⟩))
  go_ret
  exact ⟨by first | rfl | (simp [errW_none, errW_some] <;> rfl) | (simp [*, errW_none, errW_some] <;> rfl), us_ HB.out⟩
 subst c3
 have H1 : ((spec_l1In.f a0_1 0 65535).bind fun t205 => (if t205 = true then (some (decide ((l0_2.length : Int) ≤ 20))) else (some false))) = some r := by rw [if_pos rfl] at H; exact H
 clear H
 have H := H1
 clear H1
 replace H := Option.bind_eq_some_iff.mp H
 obtain ⟨t205, A40, H⟩ := H
 replace H : (if t205 = true then (some (decide ((l0_2.length : Int) ≤ 20))) else (some false)) = some r := H
 have A4 := mk_ A40
 clear A40
 by_cases c5 : t205 = true
 ·subst c5
  have H1 : (some (decide ((l0_2.length : Int) ≤ 20))) = some r := by rw [if_pos rfl] at H; exact H
  clear H
  have H := H1
  clear H1
  obtain rfl := Option.some.inj H
  go_enter Try.func52, Try.ntmps52
  go_wp2_with (first | ((with_reducible refine gate_dst (N := 1) rfl ?_); refine box_event ?hg (N := 1) ?hd (cs := #[.int .i64 a0_0, .int .i64 a0_1, .slice A0_2 l0_2.length c0_2]) (t := 31) ?hr ?_; (case hd => rfl); (case hg => rfl); (case hr => first | (go_simp; done) | (go_simp; rfl)); intro gb203 hg w6 hbox hb; have n0_ := mk_ (below_step (ub_ HB.out) hb); have n1_ := mk_ (hbox); have n2_ := mk_ ((by rw [hg]; exact (below_size (ub_ HB.out)) : w.heap.size ≤ gb203)); have n3_ := mk_ ((by rw [hg]; exact (below_size (ub_ HB.out)) : w.heap.size ≤ gb203)); clear HB; have HB := n0_; have BK203 := n1_; have GW203 := n2_; have GE203 := ge_ n3_.out; clear n0_ n1_ n2_ n3_; clear hb hbox hg; have hcz7_0 : w6.cell? ⟨gb203, 0, none⟩ = some (.int .i64 a0_0) := (blk_cell BK203.out 0).trans rfl; have hcz7_1 : w6.cell? ⟨gb203, 1, none⟩ = some (.int .i64 a0_1) := (blk_cell BK203.out 1).trans rfl; have hcz7_2 : w6.cell? ⟨gb203, 2, none⟩ = some (.slice A0_2 l0_2.length c0_2) := (blk_cell BK203.out 2).trans rfl; have hfz7_0 := blk_frozen BK203.out 0; have hfz7_1 := blk_frozen BK203.out 1; have hfz7_2 := blk_frozen BK203.out 2) | ((with_reducible refine gate_callee (f := 47) rfl ?_); refine goesL_ (some 5) rfl rfl Try.func47 (by kernel_rfl) rfl #[.int .i64 a0_0, .int .i64 1, .int .i64 6] rfl (by (try simp only [lm_, lo_, ln_]); first | done | rfl | (simp only [List.length_drop, List.length_take]; rfl)) ?_; (with_reducible refine (spec_l1In.calls a0_0 1 6 true _ A2.out).mono ?_); rintro e w' ⟨rfl, ⟨nd, rfl⟩⟩; refine ⟨_, rfl, ?_⟩) | (go_at_call 47; (with_reducible refine (spec_l1In.calls a0_1 0 65535 true _ A4.out).mono ?_); rintro e w' ⟨rfl, ⟨nd, rfl⟩⟩))
  go_ret
  exact ⟨by first | rfl | (simp [errW_none, errW_some] <;> rfl) | (simp [*, errW_none, errW_some] <;> rfl), us_ HB.out⟩
 replace c5 := Bool.eq_false_iff.mpr c5
 subst c5
 have H1 : (some false) = some r := by rw [if_neg (show ¬ (false = true) by decide)] at H; exact H
 clear H
 have H := H1
 clear H1
 obtain rfl := Option.some.inj H
 go_enter Try.func52, Try.ntmps52
 go_wp2_with (first | ((with_reducible refine gate_dst (N := 1) rfl ?_); refine box_event ?hg (N := 1) ?hd (cs := #[.int .i64 a0_0, .int .i64 a0_1, .slice A0_2 l0_2.length c0_2]) (t := 31) ?hr ?_; (case hd => rfl); (case hg => rfl); (case hr => first | (go_simp; done) | (go_simp; rfl)); intro gb203 hg w8 hbox hb; have n0_ := mk_ (below_step (ub_ HB.out) hb); have n1_ := mk_ (hbox); have n2_ := mk_ ((by rw [hg]; exact (below_size (ub_ HB.out)) : w.heap.size ≤ gb203)); have n3_ := mk_ ((by rw [hg]; exact (below_size (ub_ HB.out)) : w.heap.size ≤ gb203)); clear HB; have HB := n0_; have BK203 := n1_; have GW203 := n2_; have GE203 := ge_ n3_.out; clear n0_ n1_ n2_ n3_; clear hb hbox hg; have hcz9_0 : w8.cell? ⟨gb203, 0, none⟩ = some (.int .i64 a0_0) := (blk_cell BK203.out 0).trans rfl; have hcz9_1 : w8.cell? ⟨gb203, 1, none⟩ = some (.int .i64 a0_1) := (blk_cell BK203.out 1).trans rfl; have hcz9_2 : w8.cell? ⟨gb203, 2, none⟩ = some (.slice A0_2 l0_2.length c0_2) := (blk_cell BK203.out 2).trans rfl; have hfz9_0 := blk_frozen BK203.out 0; have hfz9_1 := blk_frozen BK203.out 1; have hfz9_2 := blk_frozen BK203.out 2) | ((with_reducible refine gate_callee (f := 47) rfl ?_); refine goesL_ (some 5) rfl rfl Try.func47 (by kernel_rfl) rfl #[.int .i64 a0_0, .int .i64 1, .int .i64 6] rfl (by (try simp only [lm_, lo_, ln_]); first | done | rfl | (simp only [List.length_drop, List.length_take]; rfl)) ?_; (with_reducible refine (spec_l1In.calls a0_0 1 6 true _ A2.out).mono ?_); rintro e w' ⟨rfl, ⟨nd, rfl⟩⟩; refine ⟨_, rfl, ?_⟩) | (go_at_call 47; (with_reducible refine (spec_l1In.calls a0_1 0 65535 false _ A4.out).mono ?_); rintro e w' ⟨rfl, ⟨nd, rfl⟩⟩))
 go_ret
 exact ⟨by first | rfl | (simp [errW_none, errW_some] <;> rfl) | (simp [*, errW_none, errW_some] <;> rfl), us_ HB.out⟩

/-! ### spec_BytesOf: function 53 -/
mutual
def spec_BytesOf.j0 : Nat → Int → Int → Bool → Option (List Int)
 | 0, _, _, _ => none
 | k + 1, x0, x1, x18 => if x18 = true then (some (([] : List Int))) else (spec_BytesOf.l0 k x0 (([] : List Int)) (wrap64 (x1 - 1)))
def spec_BytesOf.l0 : Nat → Int → List Int → Int → Option (List Int)
 | 0, _, _, _ => none
 | k + 1, x0, x5, x6 => if x6 ≥ 0 then (if 0 ≤ (wrap64 (8 * x6)) then (if x5.length < 140737488355328 then (spec_BytesOf.l0 k x0 (x5 ++ [(Int.tmod (shr .i64 x0 (wrap64 (8 * x6))) 256) % 256]) (wrap64 (x6 - 1))) else (none)) else (none)) else (some x5)
end
def spec_BytesOf.f (k : Nat) (a0 : Int) (a1 : Int) : Option (List Int) := (spec_l1In.f a1 1 4).bind fun t206 => (if t206 = true then (if 0 ≤ (wrap64 (8 * a1)) then ((spec_l1In.f a0 0 (wrap64 ((shl .i64 1 (wrap64 (8 * a1))) - 1))).bind fun t207 => (spec_BytesOf.j0 k a0 a1 (!t207))) else (none)) else (spec_BytesOf.j0 k a0 a1 true))
theorem spec_BytesOf.mono_l : ∀ k, (∀ y0 y1 y2, LeO (spec_BytesOf.j0 k y0 y1 y2) (spec_BytesOf.j0 (k + 1) y0 y1 y2)) ∧ (∀ y0 y1 y2, LeO (spec_BytesOf.l0 k y0 y1 y2) (spec_BytesOf.l0 (k + 1) y0 y1 y2))
 | 0 => ⟨fun _ _ _ r h => by simp [spec_BytesOf.j0] at h, fun _ _ _ r h => by simp [spec_BytesOf.l0] at h⟩
 | k + 1 => by
  obtain ⟨ih0, ih1⟩ := spec_BytesOf.mono_l k
  refine ⟨?_, ?_⟩
  ·intro y0 y1 y2
   unfold spec_BytesOf.j0
   repeat' first
   | (with_reducible exact ih0 _ _ _)
   | (with_reducible exact ih1 _ _ _)
   | (with_reducible exact LeO.refl _)
   | (with_reducible exact LeO.none _)
   | (with_reducible refine LeO.ite ?_ ?_)
   | (with_reducible refine LeO.bind ?_ (fun _ => ?_))
   | exact ih0 _ _ _
   | exact ih1 _ _ _
   | exact LeO.none _
   | refine LeO.ite ?_ ?_
   | refine LeO.bind ?_ (fun _ => ?_)
  ·intro y0 y1 y2
   unfold spec_BytesOf.l0
   repeat' first
   | (with_reducible exact ih0 _ _ _)
   | (with_reducible exact ih1 _ _ _)
   | (with_reducible exact LeO.refl _)
   | (with_reducible exact LeO.none _)
   | (with_reducible refine LeO.ite ?_ ?_)
   | (with_reducible refine LeO.bind ?_ (fun _ => ?_))
   | exact ih0 _ _ _
   | exact ih1 _ _ _
   | exact LeO.none _
   | refine LeO.ite ?_ ?_
   | refine LeO.bind ?_ (fun _ => ?_)
theorem spec_BytesOf.mono : ∀ a0 a1 k, LeO (spec_BytesOf.f k a0 a1) (spec_BytesOf.f (k + 1) a0 a1) := by
 intro a0 a1 k
 obtain ⟨ih0, ih1⟩ := spec_BytesOf.mono_l k
 unfold spec_BytesOf.f
 repeat' first
   | (with_reducible exact ih0 _ _ _)
   | (with_reducible exact ih1 _ _ _)
   | (with_reducible exact LeO.refl _)
   | (with_reducible exact LeO.none _)
   | (with_reducible refine LeO.ite ?_ ?_)
   | (with_reducible refine LeO.bind ?_ (fun _ => ?_))
   | exact ih0 _ _ _
   | exact ih1 _ _ _
   | exact LeO.none _
   | refine LeO.ite ?_ ?_
   | refine LeO.bind ?_ (fun _ => ?_)
set_option maxHeartbeats 8000000 in
set_option maxRecDepth 100000 in
theorem spec_BytesOf.calls (k : Nat) (a0 : Int) (a1 : Int) (r : List Int) (w : World) (h : spec_BytesOf.f k a0 a1 = some r) :
  Calls Try.prog 53 #[.int .i64 a0, .int .i64 a1] w fun e w' => ∃ v0_ : Value, e = .returned (v0_) ∧ Kd.R (Kd.int .u8) 5 w' w.heap.size (fun _ => True) v0_ r ∧ Below w.heap.size w w' := by
 have HB := mk_ (Below.refl w.heap.size w)
 have H : ((spec_l1In.f a1 1 4).bind fun t206 => (if t206 = true then (if 0 ≤ (wrap64 (8 * a1)) then ((spec_l1In.f a0 0 (wrap64 ((shl .i64 1 (wrap64 (8 * a1))) - 1))).bind fun t207 => (spec_BytesOf.j0 k a0 a1 (!t207))) else (none)) else (spec_BytesOf.j0 k a0 a1 true))) = some r := h
 clear h
 have HC3 := mk_ H
 clear H
 go_enter Try.func53, Try.ntmps53
 go_upto_region 1 with (fail)
 go_cut [18] (fun v18 wc => ∃ (kq : Nat) (x18_2 : Bool), v18 = .bool x18_2 ∧ Aside0 (spec_BytesOf.j0 kq a0 a1 x18_2 = some r) ∧ Aside0 (kq ≤ k) ∧ Aside0 (Below w.heap.size w wc))
 case first =>
  have H := HC3.out
  clear HC3
  replace H := Option.bind_eq_some_iff.mp H
  obtain ⟨t206, A40, H⟩ := H
  replace H : (if t206 = true then (if 0 ≤ (wrap64 (8 * a1)) then ((spec_l1In.f a0 0 (wrap64 ((shl .i64 1 (wrap64 (8 * a1))) - 1))).bind fun t207 => (spec_BytesOf.j0 k a0 a1 (!t207))) else (none)) else (spec_BytesOf.j0 k a0 a1 true)) = some r := H
  have A4 := mk_ A40
  clear A40
  by_cases c5 : t206 = true
  rotate_left
  ·replace c5 := Bool.eq_false_iff.mpr c5
   subst c5
   have H1 : (spec_BytesOf.j0 k a0 a1 true) = some r := by rw [if_neg (show ¬ (false = true) by decide)] at H; exact H
   clear H
   have H := H1
   clear H1
   have H' := mk_ H
   clear H
   go_wp2_with (first | ((with_reducible refine gate_callee (f := 47) rfl ?_); refine goesL_ (some 8) rfl rfl Try.func47 (by kernel_rfl) rfl #[.int .i64 a1, .int .i64 1, .int .i64 4] rfl (by (try simp only [lm_, lo_, ln_]); first | done | rfl | (simp only [List.length_drop, List.length_take]; rfl)) ?_; (with_reducible refine (spec_l1In.calls a1 1 4 false _ A4.out).mono ?_); rintro e w' ⟨rfl, ⟨nd, rfl⟩⟩; refine ⟨_, rfl, ?_⟩))
   go_meet
   case rel => exact ⟨_, (true), (by first | rfl | (simp; done) | (simp [*]; done)), H', ⟨by first | omega | exact Nat.le_refl _⟩, ⟨ub_ HB.out⟩⟩
  subst c5
  have H1 : (if 0 ≤ (wrap64 (8 * a1)) then ((spec_l1In.f a0 0 (wrap64 ((shl .i64 1 (wrap64 (8 * a1))) - 1))).bind fun t207 => (spec_BytesOf.j0 k a0 a1 (!t207))) else (none)) = some r := by rw [if_pos rfl] at H; exact H
  clear H
  have H := H1
  clear H1
  obtain ⟨ji6, hji6⟩ : ∃ j_ : Int, (wrap64 (8 * a1)) = j_ := ⟨_, rfl⟩
  replace H : (if 0 ≤ (ji6) then ((spec_l1In.f a0 0 (wrap64 ((shl .i64 1 (ji6)) - 1))).bind fun t207 => (spec_BytesOf.j0 k a0 a1 (!t207))) else (none)) = some r := by first | (rw [hji6] at H; exact H) | (simp only [hji6] at H ⊢; exact H)
  (try rw [hji6] at A4)
  have hji6w : (IntKind.i64.wrap (8 * a1)) = ji6 := (i64_w _).trans hji6
  by_cases c7 : 0 ≤ (ji6)
  rotate_left
  ·rw [if_neg c7] at H
   exact absurd H (by simp)
  rw [if_pos c7] at H
  have c7b0 := eq_true c7
  have c7b1 : decide (0 ≤ (ji6)) = true := decide_eq_true c7
  clear c7
  obtain ⟨ji8, hji8⟩ : ∃ j_ : Int, (shl .i64 1 (ji6)) = j_ := ⟨_, rfl⟩
  replace H : ((spec_l1In.f a0 0 (wrap64 ((ji8) - 1))).bind fun t207 => (spec_BytesOf.j0 k a0 a1 (!t207))) = some r := by first | (rw [hji8] at H; exact H) | (simp only [hji8] at H ⊢; exact H)
  (try rw [hji8] at A4)
  have hji8_ : (IntKind.i64.wrap (1 * 2 ^ min (ji6).toNat 64)) = ji8 := hji8
  have hji8z : (ji6) ≤ 64 → (IntKind.i64.wrap (1 * 2 ^ (ji6).toNat)) = ji8 := shl_small hji8
  have hji8u : (IntKind.i64.wrap (2 ^ min (ji6).toNat 64)) = ji8 := by have h_ := hji8_; rw [Int.one_mul] at h_; exact h_
  have hji8v : (ji6) ≤ 64 → (IntKind.i64.wrap (2 ^ (ji6).toNat)) = ji8 := fun hle_ => by have h_ := hji8z hle_; rw [Int.one_mul] at h_; exact h_
  have hji8y : (wrap64 (1 * 2 ^ min (ji6).toNat 64)) = ji8 := (i64_w _).symm.trans hji8_
  have hji8x : (ji6) ≤ 64 → (wrap64 (1 * 2 ^ (ji6).toNat)) = ji8 := fun h_ => (i64_w _).symm.trans (hji8z h_)
  replace H := Option.bind_eq_some_iff.mp H
  obtain ⟨t207, A90, H⟩ := H
  replace H : (spec_BytesOf.j0 k a0 a1 (!t207)) = some r := H
  have A9 := mk_ A90
  clear A90
  have H' := mk_ H
  clear H
  go_wp2_with (first | ((with_reducible refine gate_callee (f := 47) rfl ?_); refine goesL_ (some 8) rfl rfl Try.func47 (by kernel_rfl) rfl #[.int .i64 a1, .int .i64 1, .int .i64 4] rfl (by (try simp only [lm_, lo_, ln_]); first | done | rfl | (simp only [List.length_drop, List.length_take]; rfl)) ?_; (with_reducible refine (spec_l1In.calls a1 1 4 true _ A4.out).mono ?_); rintro e w' ⟨rfl, ⟨nd, rfl⟩⟩; refine ⟨_, rfl, ?_⟩) | (go_at_call 47; (with_reducible refine (spec_l1In.calls a0 0 (wrap64 ((ji8) - 1)) t207 _ A9.out).mono ?_); rintro e w' ⟨rfl, ⟨nd, rfl⟩⟩))
  go_meet
  case rel => exact ⟨_, (!t207), (by first | rfl | (simp; done) | (simp [*]; done)), (by first | exact H' | (simp only [← hji6, ← hji8] at H'; exact H') | (simp only [← hji6, ← hji8] at H' ⊢; exact H') | (simp only [← hji6, ← hji8]; exact H')), ⟨by first | omega | exact Nat.le_refl _⟩, ⟨ub_ HB.out⟩⟩
 case rest =>
  clear HC3
  try clear p2
  try clear c4
  try clear c5
  try clear p6
  try clear c7
  try clear c7b0
  try clear c7b1
  obtain ⟨kq, x18_2, rfl, HA, HJ2, HB⟩ := hcut
  cases kq with
  | zero => exact absurd HA.out (by simp [spec_BytesOf.j0])
  | succ kj2 =>
   have H := HA.out
   clear HA
   simp only [spec_BytesOf.j0] at H
   by_cases c10 : x18_2 = true
   ·subst c10
    have H1 : (some (([] : List Int))) = some r := by rw [if_pos rfl] at H; exact H
    clear H
    have H := H1
    clear H1
    obtain ⟨y208, hy208⟩ : ∃ y_ : List Int, y_ = (([] : List Int)) := ⟨_, rfl⟩
    replace H : (some y208) = some r := by first | (rw [hy208]; with_reducible exact H) | (have H2_ := (Option.bind_some _ _).symm.trans H; rw [hy208]; with_reducible exact H2_) | (have H2_ := (Option.bind_some _ _).symm.trans H; with_reducible exact H2_) | with_reducible exact H | (rw [hy208]; exact H) | exact H
    have Ny208 := mk_ hy208
    clear hy208
    obtain rfl := Option.some.inj H
    go_wp2_with (first | ((with_reducible refine gate_dst (N := 19) rfl ?_); refine Kd.R_lit (Kd.int .u8) _ 5 ?hg (N := 19) ?hd (xs := ([] : List Int)) (inner := []) (ok := fun _ => True) (okp := fun _ => True) ?hr ?hp (fun _ hk => hk) trivial (Below.refl _ _) (Nat.le_refl _) (by simp) ?_; (case hd => rfl); (case hg => rfl); (case hr => first | (go_simp; done) | (go_simp; rfl)); (case hp => exact (Reps.none _ _)); intro v209 w11 ho12 hb hg_ hnew_; clear hg_ hnew_; (first | rw [← Ny208.out] at ho12 | (simp only [Int.reduceToNat] at ho12; rw [← Ny208.out] at ho12)); have n0_ := mk_ (Kd.R_lower ho12 (below_size (ub_ HB.out))); have n1_ := mk_ (below_step (ub_ HB.out) hb); clear HB; have HO210 := n0_; have HB := n1_; clear n0_ n1_; clear hb ho12))
    go_ret
    exact ⟨_, by first | rfl | (simp [errW_none, errW_some] <;> rfl) | (simp [*, errW_none, errW_some] <;> rfl), by (with_reducible repeat (first | apply Kd.R_alloc | apply Kd.R_drewN | apply Kd.R_drew)); exact HO210.out, by repeat (first | (with_reducible first | exact HB.out | apply na_ | apply nn_ | apply nw_) | exact HB.out)⟩
   replace c10 := Bool.eq_false_iff.mpr c10
   subst c10
   have H1 : (spec_BytesOf.l0 kj2 a0 (([] : List Int)) (wrap64 (a1 - 1))) = some r := by rw [if_neg (show ¬ (false = true) by decide)] at H; exact H
   clear H
   have H := H1
   clear H1
   obtain ⟨y211, hy211⟩ : ∃ y_ : List Int, y_ = (([] : List Int)) := ⟨_, rfl⟩
   replace H : (spec_BytesOf.l0 kj2 a0 y211 (wrap64 (a1 - 1))) = some r := by first | (rw [hy211]; with_reducible exact H) | (have H2_ := (Option.bind_some _ _).symm.trans H; rw [hy211]; with_reducible exact H2_) | (have H2_ := (Option.bind_some _ _).symm.trans H; with_reducible exact H2_) | with_reducible exact H | (rw [hy211]; exact H) | exact H
   have Ny211 := mk_ hy211
   clear hy211
   have H' := mk_ H
   clear H
   go_wp2_with (first | ((with_reducible refine gate_dst (N := 20) rfl ?_); refine Kd.R_lit (Kd.int .u8) _ 5 ?hg (N := 20) ?hd (xs := ([] : List Int)) (inner := []) (ok := fun _ => True) (okp := fun _ => True) ?hr ?hp (fun _ hk => hk) trivial (Below.refl _ _) (Nat.le_refl _) (by simp) ?_; (case hd => rfl); (case hg => rfl); (case hr => first | (go_simp; done) | (go_simp; rfl)); (case hp => exact (Reps.none _ _)); intro v212 w13 ho14 hb hg_ hnew_; clear hg_ hnew_; (first | rw [← Ny211.out] at ho14 | (simp only [Int.reduceToNat] at ho14; rw [← Ny211.out] at ho14)); have n0_ := mk_ (Kd.R_lower ho14 (below_size (ub_ HB.out))); have n1_ := mk_ (below_step (ub_ HB.out) hb); clear HB; have HO213 := n0_; have HB := n1_; clear n0_ n1_; clear hb ho14))
   go_loopg [5, 6] kj2 (fun kq v5 v6 w' => ∃ (x5_2 : List Int) (x6_2 : Int), v6 = .int .i64 x6_2 ∧ Aside0 (spec_BytesOf.l0 kq a0 x5_2 x6_2 = some r) ∧ Aside0 (kq ≤ kj2) ∧ Aside0 (Kd.R (Kd.int .u8) 5 w' w.heap.size (fun _ => True) v5 x5_2) ∧ Aside0 (Below w.heap.size w w'))
   case atStart => exact ⟨(y211), (wrap64 (a1 - 1)), (by first | rfl | (simp; done) | (simp [*]; done)), H', ⟨Nat.le_refl _⟩, ⟨Kd.ur_ HO213.out⟩, ⟨ub_ HB.out⟩⟩
   case round =>
    clear H'
    try clear c1
    try clear p2
    try clear c4
    try clear c5
    try clear p6
    try clear c7
    try clear c7b0
    try clear c7b1
    try clear c10
    try clear p2
    try clear p6
    obtain ⟨x5_2, x6_2, rfl, HA, HK2, HO_5, HB⟩ := hrel
    cases gk with
    | zero => exact absurd HA.out (by simp [spec_BytesOf.l0])
    | succ k2 =>
     have H := HA.out
     clear HA
     simp only [spec_BytesOf.l0] at H
     by_cases c15 : x6_2 ≥ 0
     rotate_left
     ·rw [if_neg c15] at H
      have c15b0 : decide (0 ≤ x6_2) = false := decide_eq_false c15
      clear c15
      obtain rfl := Option.some.inj H
      go_wp2
      go_ret
      exact ⟨_, by first | rfl | (simp [errW_none, errW_some] <;> rfl) | (simp [*, errW_none, errW_some] <;> rfl), by (with_reducible repeat (first | apply Kd.R_alloc | apply Kd.R_drewN | apply Kd.R_drew)); exact HO_5.out, by repeat (first | (with_reducible first | exact HB.out | apply na_ | apply nn_ | apply nw_) | exact HB.out)⟩
     rw [if_pos c15] at H
     have c15b0 : decide (0 ≤ x6_2) = true := decide_eq_true c15
     clear c15
     obtain ⟨ji16, hji16⟩ : ∃ j_ : Int, (wrap64 (8 * x6_2)) = j_ := ⟨_, rfl⟩
     replace H : (if 0 ≤ (ji16) then (if x5_2.length < 140737488355328 then (spec_BytesOf.l0 k2 a0 (x5_2 ++ [(Int.tmod (shr .i64 a0 (ji16)) 256) % 256]) (wrap64 (x6_2 - 1))) else (none)) else (none)) = some r := by first | (rw [hji16] at H; exact H) | (simp only [hji16] at H ⊢; exact H)
     have hji16w : (IntKind.i64.wrap (8 * x6_2)) = ji16 := (i64_w _).trans hji16
     by_cases c17 : 0 ≤ (ji16)
     rotate_left
     ·rw [if_neg c17] at H
      exact absurd H (by simp)
     rw [if_pos c17] at H
     have c17b0 := eq_true c17
     have c17b1 : decide (0 ≤ (ji16)) = true := decide_eq_true c17
     clear c17
     obtain ⟨ji18, hji18⟩ : ∃ j_ : Int, (shr .i64 a0 (ji16)) = j_ := ⟨_, rfl⟩
     replace H : (if x5_2.length < 140737488355328 then (spec_BytesOf.l0 k2 a0 (x5_2 ++ [(Int.tmod (ji18) 256) % 256]) (wrap64 (x6_2 - 1))) else (none)) = some r := by first | (rw [hji18] at H; exact H) | (simp only [hji18] at H ⊢; exact H)
     have hji18_ : (a0 / 2 ^ min (ji16).toNat 64) = ji18 := hji18
     have hji18z : (ji16) ≤ 64 → (a0 / 2 ^ (ji16).toNat) = ji18 := shr_small hji18
     by_cases c19 : x5_2.length < 140737488355328
     rotate_left
     ·rw [if_neg c19] at H
      exact absurd H (by simp)
     rw [if_pos c19] at H
     have LMc19 := mk_ c19
     clear c19
     obtain ⟨y214, hy214⟩ : ∃ y_ : List Int, y_ = (x5_2 ++ [(Int.tmod (ji18) 256) % 256]) := ⟨_, rfl⟩
     replace H : (spec_BytesOf.l0 k2 a0 y214 (wrap64 (x6_2 - 1))) = some r := by first | (rw [hy214]; with_reducible exact H) | (have H2_ := (Option.bind_some _ _).symm.trans H; rw [hy214]; with_reducible exact H2_) | (have H2_ := (Option.bind_some _ _).symm.trans H; with_reducible exact H2_) | with_reducible exact H | (rw [hy214]; exact H) | exact H
     have Ny214 := mk_ hy214
     clear hy214
     have H' := mk_ H
     clear H
     go_wp2_with (first | ((with_reducible refine gate_builtin (b := .append) (xs := #[.tmp 27, .tmp 34]) rfl ?_); at_builtin; refine Kd.R_append (Kd.int .u8) (w0 := w) w.heap.size rfl (.tmp 27) (.tmp 34) 22 5 (.int .u8 0) 1 rfl Try.underlying22 info5 rfl (by decide) (by omega) u5 x5_2 ((Int.tmod (ji18) 256) % 256) [.int .u8 ((Int.tmod (ji18) 256) % 256)] (fun _ => True) (fun _ => False) rfl rfl ?aP (fun _ hk => hk.elim) ?aF ?aO ?aB ?aS ?aL ?_; (case aP => exact rfl); (case aB => exact (ub_ HB.out)); (case aF => exact (fun _ _ => trivial)); (case aO => exact (Kd.ur_ HO_5.out)); (case aS => exact (below_size (ub_ HB.out))); (case aL => have := LMc19.out; omega); intro v215 w20 ho hb hg hat; rw [← Ny214.out] at ho; have n0_ := mk_ (hb); have n1_ := mk_ (ho); clear HB; clear HO_5; have HB := n0_; have HO216 := n1_; clear n0_ n1_; clear ho hb hg hat))
     go_roundg k2
     case measure => have := HJ2.out; have := HK2.out; omega
     case rel => exact ⟨(y214), (wrap64 (x6_2 - 1)), (by first | rfl | (simp; done) | (simp [*]; done)), H', ⟨by have := HJ2.out; have := HK2.out; omega⟩, ⟨Kd.ur_ HO216.out⟩, ⟨ub_ HB.out⟩⟩

end Go.Proofs.Ytgfaamcihlojdae.MFnNoteBytes
