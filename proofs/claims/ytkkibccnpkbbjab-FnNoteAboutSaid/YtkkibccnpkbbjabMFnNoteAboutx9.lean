/- Functions that the law FnNoteAbout reaches, each with the proof that the machine's call comes to just its answer; no conditions but those that each theorem states. Printed by a program of this session over the kit's print. -/
import Derived.Test.YtkkibccnpkbbjabMFnNoteAboutx0
import Derived.Test.YtkkibccnpkbbjabMFnNoteAboutx1
import Derived.Test.YtkkibccnpkbbjabMFnNoteAboutx2
import Derived.Test.YtkkibccnpkbbjabMFnNoteAboutx8
namespace Go.Proofs.Ytkkibccnpkbbjab.MFnNoteAbout
open Go.RowKit Go.Proofs.YtkkibccnpkbbjabV.PrintWords Go.Proofs.YtkkibccnpkbbjabV.PrintLast Go.Proofs.YtkkibccnpkbbjabV.PrintMore
attribute [local go_sem] max2_int min2_int max_two min_two max_three min_three max_four min_four   -- for this text's walks alone
set_option linter.unusedVariables false
set_option linter.unusedSimpArgs false

/-! ### impl_packetBytes: function 67 -/
def impl_packetBytes.f (k : Nat) (a0_0 : Int) (a0_1 : Int) (a0_2 : Int) (a0_3 : Int) (a0_4 : Int) (a0_5 : Int) (a0_6 : Bool) (a0_7 : Bool) (l0_8 : List Int) : Option (List Int) := (impl_bytesOf.f k a0_0 2).bind fun t383 => ((impl_bytesOf.f k a0_1 2).bind fun t386 => ((impl_bit.f a0_6 1).bind fun t389 => ((impl_bit.f a0_7 2).bind fun t390 => ((slices_Concat_byte_byte.f (([t383, t386, (([(a0_2) % 256, (a0_3) % 256, (a0_4) % 256, (a0_5) % 256, (wrap64 (t389 + t390)) % 256, ((l0_8.length : Int)) % 256] : List Int))] : List (List Int)))).bind fun t397 => ((impl_sumOf.f t397).bind fun t400 => ((impl_bytesOf.f k t400 2).bind fun t401 => ((slices_Concat_byte_byte.f (([t397, t401, l0_8] : List (List Int)))).bind fun t407 => (some t407))))))))
theorem impl_packetBytes.mono : ∀ a0 a1 a2 a3 a4 a5 a6 a7 a8 k, LeO (impl_packetBytes.f k a0 a1 a2 a3 a4 a5 a6 a7 a8) (impl_packetBytes.f (k + 1) a0 a1 a2 a3 a4 a5 a6 a7 a8) := by
 intro a0 a1 a2 a3 a4 a5 a6 a7 a8 k
 unfold impl_packetBytes.f
 repeat' first
   | (with_reducible exact impl_bytesOf.mono _ _ _)
   | (with_reducible exact LeO.refl _)
   | (with_reducible exact LeO.none _)
   | (with_reducible refine LeO.ite ?_ ?_)
   | (with_reducible refine LeO.bind ?_ (fun _ => ?_))
   | exact impl_bytesOf.mono _ _ _
   | exact LeO.none _
   | refine LeO.ite ?_ ?_
   | refine LeO.bind ?_ (fun _ => ?_)
def impl_packetBytes.T1 : Bool × List (List Nat × List Nat) := (true, [([], []), ([0], [0]), ([1], [1]), ([], []), ([3], [3]), ([4, 2], [4]), ([], []), ([6], [6]), ([7], [7]), ([], []), ([9], [9]), ([10], [10]), ([], []), ([12], [12]), ([13], [13]), ([], []), ([15], [15]), ([16], [16]), ([], []), ([18], [18]), ([19, 5], [19]), ([], []), ([21], [21]), ([22, 20], [22]), ([20, 23], [20, 23]), ([24], [24]), ([], []), ([26], [26]), ([27], [27]), ([28], [28]), ([8, 11, 14, 17, 25, 29], [8, 11, 14, 17, 25, 29]), ([2, 5, 30], [2, 5, 30]), ([31, 23], [31]), ([32, 32, 0, 1, 2, 3, 4, 5, 6, 7, 8, 9, 10, 11, 12, 13, 14, 15, 16, 17, 18, 19, 20, 21, 22, 23, 24, 25, 26, 27, 28, 29, 30, 31, 32], [32])])
def impl_packetBytes.B1 : List Nat := [0, 1, 3, 0, 8, 31, 0, 64, 192, 0, 512, 1536, 0, 4096, 12288, 0, 32768, 98304, 0, 262144, 786495, 0, 2097152, 8126527, 16515135, 33292351, 0, 67108864, 201326592, 469762048, 1073741823, 2147483647, 4294967295, 8589934591]
theorem impl_packetBytes.tab1 : rtab .any (opsOf Try.f67 1) = impl_packetBytes.T1 := by kernel_rfl
theorem impl_packetBytes.bits1 : waitsOk impl_packetBytes.T1.2 impl_packetBytes.B1 = true := by kernel_rfl
def impl_packetBytes.T2 : Bool × List (List Nat × List Nat) := (true, [([], []), ([], []), ([1], [1]), ([2, 2], [2]), ([], []), ([4], [4]), ([0, 3, 5], [0, 3, 5]), ([6, 3], [6]), ([7, 7, 0, 1, 2, 3, 4, 5, 6, 7], [7])])
def impl_packetBytes.B2 : List Nat := [0, 0, 2, 6, 0, 16, 63, 127, 255]
theorem impl_packetBytes.tab2 : rtab .any (opsOf Try.f67 2) = impl_packetBytes.T2 := by kernel_rfl
theorem impl_packetBytes.bits2 : waitsOk impl_packetBytes.T2.2 impl_packetBytes.B2 = true := by kernel_rfl
set_option maxHeartbeats 8000000 in
set_option maxRecDepth 100000 in
theorem impl_packetBytes.calls (k : Nat) (a0_0 : Int) (a0_1 : Int) (a0_2 : Int) (a0_3 : Int) (a0_4 : Int) (a0_5 : Int) (a0_6 : Bool) (a0_7 : Bool) (P0_8_ : Nat → Prop) (A0_8 : Option Addr) (c0_8 : Nat) (l0_8 : List Int) (r : List Int) (w : World) (hs0_8 : Kd.V (Kd.int .u8) 5 w w.heap.size (fun k_ => P0_8_ k_) (.slice A0_8 l0_8.length c0_8) l0_8) (h : impl_packetBytes.f k a0_0 a0_1 a0_2 a0_3 a0_4 a0_5 a0_6 a0_7 l0_8 = some r) :
  Calls Try.prog 67 #[.agg #[.int .i64 a0_0, .int .i64 a0_1, .int .i64 a0_2, .int .i64 a0_3, .int .i64 a0_4, .int .i64 a0_5, .bool a0_6, .bool a0_7, .slice A0_8 l0_8.length c0_8]] w fun e w' => ∃ v0_ : Value, e = .returned (v0_) ∧ Kd.R (Kd.int .u8) 5 w' w.heap.size (fun k_ => (w.heap.size ≤ k_)) v0_ r ∧ Below w.heap.size w w' := by
 have hu37 := Try.underlying37
 have HO0_8 := mk_ (show Kd.V (Kd.int .u8) 5 w w.heap.size (fun k_ => (P0_8_ k_ ∨ w.heap.size ≤ k_)) (.slice A0_8 l0_8.length c0_8) l0_8 from Kd.V_mono hs0_8 (fun k_ hk => .inl hk))
 have HB := mk_ (Below.refl w.heap.size w)
 have H := h
 unfold impl_packetBytes.f at H
 clear h
 replace H := Option.bind_eq_some_iff.mp H
 obtain ⟨t383, A20, H⟩ := H
 (try dsimp only at H)
 have A2 := mk_ A20
 clear A20
 replace H := Option.bind_eq_some_iff.mp H
 obtain ⟨t386, A30, H⟩ := H
 (try dsimp only at H)
 have A3 := mk_ A30
 clear A30
 replace H := Option.bind_eq_some_iff.mp H
 obtain ⟨t389, A40, H⟩ := H
 (try dsimp only at H)
 have A4 := mk_ A40
 clear A40
 replace H := Option.bind_eq_some_iff.mp H
 obtain ⟨t390, A50, H⟩ := H
 (try dsimp only at H)
 have A5 := mk_ A50
 clear A50
 obtain ⟨y391, hy391⟩ : ∃ y_ : List Int, y_ = (([(a0_2) % 256, (a0_3) % 256, (a0_4) % 256, (a0_5) % 256, (wrap64 (t389 + t390)) % 256, ((l0_8.length : Int)) % 256] : List Int)) := ⟨_, rfl⟩
 replace H : ((slices_Concat_byte_byte.f (([t383, t386, y391] : List (List Int)))).bind fun t397 => ((impl_sumOf.f t397).bind fun t400 => ((impl_bytesOf.f k t400 2).bind fun t401 => ((slices_Concat_byte_byte.f (([t397, t401, l0_8] : List (List Int)))).bind fun t407 => (some t407))))) = some r := by first | (rw [hy391]; with_reducible exact H) | (have H2_ := (Option.bind_some _ _).symm.trans H; rw [hy391]; with_reducible exact H2_) | (have H2_ := (Option.bind_some _ _).symm.trans H; with_reducible exact H2_) | with_reducible exact H | (rw [hy391]; exact H) | exact H
 have Ny391 := mk_ hy391
 clear hy391
 obtain ⟨y394, hy394⟩ : ∃ y_ : List (List Int), y_ = (([t383, t386, y391] : List (List Int))) := ⟨_, rfl⟩
 replace H : ((slices_Concat_byte_byte.f y394).bind fun t397 => ((impl_sumOf.f t397).bind fun t400 => ((impl_bytesOf.f k t400 2).bind fun t401 => ((slices_Concat_byte_byte.f (([t397, t401, l0_8] : List (List Int)))).bind fun t407 => (some t407))))) = some r := by first | (rw [hy394]; with_reducible exact H) | (have H2_ := (Option.bind_some _ _).symm.trans H; rw [hy394]; with_reducible exact H2_) | (have H2_ := (Option.bind_some _ _).symm.trans H; with_reducible exact H2_) | with_reducible exact H | (rw [hy394]; exact H) | exact H
 have Ny394 := mk_ hy394
 clear hy394
 replace H := Option.bind_eq_some_iff.mp H
 obtain ⟨t397, A60, H⟩ := H
 (try dsimp only at H)
 have A6 := mk_ A60
 clear A60
 replace H := Option.bind_eq_some_iff.mp H
 obtain ⟨t400, A70, H⟩ := H
 (try dsimp only at H)
 have A7 := mk_ A70
 clear A70
 replace H := Option.bind_eq_some_iff.mp H
 obtain ⟨t401, A80, H⟩ := H
 (try dsimp only at H)
 have A8 := mk_ A80
 clear A80
 obtain ⟨y404, hy404⟩ : ∃ y_ : List (List Int), y_ = (([t397, t401, l0_8] : List (List Int))) := ⟨_, rfl⟩
 replace H : ((slices_Concat_byte_byte.f y404).bind fun t407 => (some t407)) = some r := by first | (rw [hy404]; with_reducible exact H) | (have H2_ := (Option.bind_some _ _).symm.trans H; rw [hy404]; with_reducible exact H2_) | (have H2_ := (Option.bind_some _ _).symm.trans H; with_reducible exact H2_) | with_reducible exact H | (rw [hy404]; exact H) | exact H
 have Ny404 := mk_ hy404
 clear hy404
 replace H := Option.bind_eq_some_iff.mp H
 obtain ⟨t407, A90, H⟩ := H
 replace H : (some t407) = some r := H
 have A9 := mk_ A90
 clear A90
 obtain rfl := Option.some.inj H
 go_enter Try.func67, Try.ntmps67
 try go_wp2_with (first | ((with_reducible refine gate_dst (N := 1) rfl ?_); refine box_event ?hg (N := 1) ?hd (cs := #[.int .i64 a0_0, .int .i64 a0_1, .int .i64 a0_2, .int .i64 a0_3, .int .i64 a0_4, .int .i64 a0_5, .bool a0_6, .bool a0_7, .slice A0_8 l0_8.length c0_8]) (t := 37) ?hr ?_; (case hd => rfl); (case hg => rfl); (case hr => first | (go_simp; done) | (go_simp; rfl)); intro gb382 hg w10 hbox hb; replace HO0_8 := mk_ (Kd.V_below (Kd.V_elderB (by (with_reducible repeat (first | apply Kd.V_alloc | apply Kd.V_drewN | apply Kd.V_drew)); exact HO0_8.out) gb382 (Nat.le_of_eq hg.symm)) hb); have n1_ := mk_ (below_step (ub_ HB.out) hb); have BK382 := mk_ (hbox); have GW382 := mk_ ((by rw [hg]; exact (below_size (ub_ HB.out)) : w.heap.size ≤ gb382)); have GE382 := ge_ ((by rw [hg]; exact (below_size (ub_ HB.out)) : w.heap.size ≤ gb382)); replace HB := n1_; clear n1_; clear hb hbox hg))
 have n0_ := mk_ (Kd.V_drew HO0_8.out)
 have n1_ := mk_ (blk_drew BK382.out)
 have n2_ := mk_ (below_drew1 HB.out)
 clear HO0_8
 clear BK382
 clear HB
 have HO0_8 := n0_
 have BK382 := n1_
 have HB := n2_
 clear n0_ n1_ n2_
 refine start_ (n := 34) (S := fun w' => w'.cell? ⟨gb382, 0, none⟩ = some (.int .i64 a0_0) ∧ w'.cell? ⟨gb382, 1, none⟩ = some (.int .i64 a0_1) ∧ w'.cell? ⟨gb382, 2, none⟩ = some (.int .i64 a0_2) ∧ w'.cell? ⟨gb382, 3, none⟩ = some (.int .i64 a0_3) ∧ w'.cell? ⟨gb382, 4, none⟩ = some (.int .i64 a0_4) ∧ w'.cell? ⟨gb382, 5, none⟩ = some (.int .i64 a0_5) ∧ w'.cell? ⟨gb382, 6, none⟩ = some (.bool a0_6) ∧ w'.cell? ⟨gb382, 7, none⟩ = some (.bool a0_7) ∧ w'.cell? ⟨gb382, 8, none⟩ = some (.slice A0_8 l0_8.length c0_8)) (ds := []) #[F_, F_, F_, F_, F_, F_, F_, F_, F_, F_, F_, F_, F_, F_, F_, F_, F_, F_, F_, F_, F_, F_, F_, F_, F_, F_, F_, F_, F_, F_, F_, F_, F_, F_] (by kernel_rfl) rfl rfl ⟨(blk_cell BK382.out 0).trans rfl, (blk_cell BK382.out 1).trans rfl, (blk_cell BK382.out 2).trans rfl, (blk_cell BK382.out 3).trans rfl, (blk_cell BK382.out 4).trans rfl, (blk_cell BK382.out 5).trans rfl, (blk_cell BK382.out 6).trans rfl, (blk_cell BK382.out 7).trans rfl, (blk_cell BK382.out 8).trans rfl⟩ (fun hHeld => ?_); refine with_tabW impl_packetBytes.tab1 impl_packetBytes.bits1 (fun HT_ HW_ => ?_)
 generalize w10.drew = w11 at HO0_8 BK382 HB hHeld ⊢
 refine pure_ (i := 0) (N := some 4) (v := ?_) (a' := ?_) #[T_, F_, F_, F_, F_, F_, F_, F_, F_, F_, F_, F_, F_, F_, F_, F_, F_, F_, F_, F_, F_, F_, F_, F_, F_, F_, F_, F_, F_, F_, F_, F_, F_, F_] rfl rfl (any_of HT_.out (by kernel_rfl)) (fun _ _ _ h => h) (Or.inl ⟨by rfl, ?_⟩) ?_ ?_
 rotate_left
 ·intro w'
  go_simp
  with_reducible rfl
 rotate_left
 ·simp only [Act.put, la_, lz_, ls_, i64_w, i32_w]
  rfl
 refine pure_ (i := 3) (N := some 7) (v := ?_) (a' := ?_) #[T_, F_, F_, T_, F_, F_, F_, F_, F_, F_, F_, F_, F_, F_, F_, F_, F_, F_, F_, F_, F_, F_, F_, F_, F_, F_, F_, F_, F_, F_, F_, F_, F_, F_] rfl rfl (any_of HT_.out (by kernel_rfl)) (fun _ _ _ h => h) (Or.inl ⟨by rfl, ?_⟩) ?_ ?_
 rotate_left
 ·intro w'
  go_simp
  with_reducible rfl
 rotate_left
 ·simp only [Act.put, la_, lz_, ls_, i64_w, i32_w]
  rfl
 refine pure_ (i := 6) (N := some 10) (v := ?_) (a' := ?_) #[T_, F_, F_, T_, F_, F_, T_, F_, F_, F_, F_, F_, F_, F_, F_, F_, F_, F_, F_, F_, F_, F_, F_, F_, F_, F_, F_, F_, F_, F_, F_, F_, F_, F_] rfl rfl (any_of HT_.out (by kernel_rfl)) (fun _ _ _ h => h) (Or.inl ⟨by rfl, ?_⟩) ?_ ?_
 rotate_left
 ·intro w'
  go_simp
  with_reducible rfl
 rotate_left
 ·simp only [Act.put, la_, lz_, ls_, i64_w, i32_w]
  rfl
 refine pure_ (i := 9) (N := some 13) (v := ?_) (a' := ?_) #[T_, F_, F_, T_, F_, F_, T_, F_, F_, T_, F_, F_, F_, F_, F_, F_, F_, F_, F_, F_, F_, F_, F_, F_, F_, F_, F_, F_, F_, F_, F_, F_, F_, F_] rfl rfl (any_of HT_.out (by kernel_rfl)) (fun _ _ _ h => h) (Or.inl ⟨by rfl, ?_⟩) ?_ ?_
 rotate_left
 ·intro w'
  go_simp
  with_reducible rfl
 rotate_left
 ·simp only [Act.put, la_, lz_, ls_, i64_w, i32_w]
  rfl
 refine pure_ (i := 12) (N := some 16) (v := ?_) (a' := ?_) #[T_, F_, F_, T_, F_, F_, T_, F_, F_, T_, F_, F_, T_, F_, F_, F_, F_, F_, F_, F_, F_, F_, F_, F_, F_, F_, F_, F_, F_, F_, F_, F_, F_, F_] rfl rfl (any_of HT_.out (by kernel_rfl)) (fun _ _ _ h => h) (Or.inl ⟨by rfl, ?_⟩) ?_ ?_
 rotate_left
 ·intro w'
  go_simp
  with_reducible rfl
 rotate_left
 ·simp only [Act.put, la_, lz_, ls_, i64_w, i32_w]
  rfl
 refine pure_ (i := 15) (N := some 19) (v := ?_) (a' := ?_) #[T_, F_, F_, T_, F_, F_, T_, F_, F_, T_, F_, F_, T_, F_, F_, T_, F_, F_, F_, F_, F_, F_, F_, F_, F_, F_, F_, F_, F_, F_, F_, F_, F_, F_] rfl rfl (any_of HT_.out (by kernel_rfl)) (fun _ _ _ h => h) (Or.inl ⟨by rfl, ?_⟩) ?_ ?_
 rotate_left
 ·intro w'
  go_simp
  with_reducible rfl
 rotate_left
 ·simp only [Act.put, la_, lz_, ls_, i64_w, i32_w]
  rfl
 refine pure_ (i := 18) (N := some 22) (v := ?_) (a' := ?_) #[T_, F_, F_, T_, F_, F_, T_, F_, F_, T_, F_, F_, T_, F_, F_, T_, F_, F_, T_, F_, F_, F_, F_, F_, F_, F_, F_, F_, F_, F_, F_, F_, F_, F_] rfl rfl (any_of HT_.out (by kernel_rfl)) (fun _ _ _ h => h) (Or.inl ⟨by rfl, ?_⟩) ?_ ?_
 rotate_left
 ·intro w'
  go_simp
  with_reducible rfl
 rotate_left
 ·simp only [Act.put, la_, lz_, ls_, i64_w, i32_w]
  rfl
 refine pure_ (i := 21) (N := some 25) (v := ?_) (a' := ?_) #[T_, F_, F_, T_, F_, F_, T_, F_, F_, T_, F_, F_, T_, F_, F_, T_, F_, F_, T_, F_, F_, T_, F_, F_, F_, F_, F_, F_, F_, F_, F_, F_, F_, F_] rfl rfl (any_of HT_.out (by kernel_rfl)) (fun _ _ _ h => h) (Or.inl ⟨by rfl, ?_⟩) ?_ ?_
 rotate_left
 ·intro w'
  go_simp
  with_reducible rfl
 rotate_left
 ·simp only [Act.put, la_, lz_, ls_, i64_w, i32_w]
  rfl
 refine pure_ (i := 26) (N := some 30) (v := ?_) (a' := ?_) #[T_, F_, F_, T_, F_, F_, T_, F_, F_, T_, F_, F_, T_, F_, F_, T_, F_, F_, T_, F_, F_, T_, F_, F_, F_, F_, T_, F_, F_, F_, F_, F_, F_, F_] rfl rfl (any_of HT_.out (by kernel_rfl)) (fun _ _ _ h => h) (Or.inl ⟨by rfl, ?_⟩) ?_ ?_
 rotate_left
 ·intro w'
  go_simp
  with_reducible rfl
 rotate_left
 ·simp only [Act.put, la_, lz_, ls_, i64_w, i32_w]
  rfl
 refine take_ (i := 1) (N := some 5) (v := ?_) (a' := ?_) #[T_, T_, F_, T_, F_, F_, T_, F_, F_, T_, F_, F_, T_, F_, F_, T_, F_, F_, T_, F_, F_, T_, F_, F_, F_, F_, T_, F_, F_, F_, F_, F_, F_, F_] rfl rfl (take_ofW HT_.out HW_.out (by kernel_rfl)) (fun _ _ _ h => h) (Or.inl ⟨by rfl, ?_⟩) hHeld ?_ ?_
 rotate_left
 ·rintro w' ⟨s0, s1, s2, s3, s4, s5, s6, s7, s8⟩
  go_simp
  with_reducible rfl
 rotate_left
 ·simp only [Act.put, la_, lz_, ls_, i64_w, i32_w]
  rfl
 refine take_ (i := 4) (N := some 8) (v := ?_) (a' := ?_) #[T_, T_, F_, T_, T_, F_, T_, F_, F_, T_, F_, F_, T_, F_, F_, T_, F_, F_, T_, F_, F_, T_, F_, F_, F_, F_, T_, F_, F_, F_, F_, F_, F_, F_] rfl rfl (take_ofW HT_.out HW_.out (by kernel_rfl)) (fun _ _ _ h => h) (Or.inl ⟨by rfl, ?_⟩) hHeld ?_ ?_
 rotate_left
 ·rintro w' ⟨s0, s1, s2, s3, s4, s5, s6, s7, s8⟩
  go_simp
  with_reducible rfl
 rotate_left
 ·simp only [Act.put, la_, lz_, ls_, i64_w, i32_w]
  rfl
 refine take_ (i := 7) (N := some 11) (v := ?_) (a' := ?_) #[T_, T_, F_, T_, T_, F_, T_, T_, F_, T_, F_, F_, T_, F_, F_, T_, F_, F_, T_, F_, F_, T_, F_, F_, F_, F_, T_, F_, F_, F_, F_, F_, F_, F_] rfl rfl (take_ofW HT_.out HW_.out (by kernel_rfl)) (fun _ _ _ h => h) (Or.inl ⟨by rfl, ?_⟩) hHeld ?_ ?_
 rotate_left
 ·rintro w' ⟨s0, s1, s2, s3, s4, s5, s6, s7, s8⟩
  go_simp
  with_reducible rfl
 rotate_left
 ·simp only [Act.put, la_, lz_, ls_, i64_w, i32_w]
  rfl
 refine pure_ (i := 8) (N := some 12) (v := ?_) (a' := ?_) #[T_, T_, F_, T_, T_, F_, T_, T_, T_, T_, F_, F_, T_, F_, F_, T_, F_, F_, T_, F_, F_, T_, F_, F_, F_, F_, T_, F_, F_, F_, F_, F_, F_, F_] rfl rfl (any_of HT_.out (by kernel_rfl)) (fun _ _ _ h => h) (Or.inl ⟨by rfl, ?_⟩) ?_ ?_
 rotate_left
 ·intro w'
  go_simp
  with_reducible rfl
 rotate_left
 ·simp only [Act.put, la_, lz_, ls_, i64_w, i32_w]
  rfl
 refine take_ (i := 10) (N := some 14) (v := ?_) (a' := ?_) #[T_, T_, F_, T_, T_, F_, T_, T_, T_, T_, T_, F_, T_, F_, F_, T_, F_, F_, T_, F_, F_, T_, F_, F_, F_, F_, T_, F_, F_, F_, F_, F_, F_, F_] rfl rfl (take_ofW HT_.out HW_.out (by kernel_rfl)) (fun _ _ _ h => h) (Or.inl ⟨by rfl, ?_⟩) hHeld ?_ ?_
 rotate_left
 ·rintro w' ⟨s0, s1, s2, s3, s4, s5, s6, s7, s8⟩
  go_simp
  with_reducible rfl
 rotate_left
 ·simp only [Act.put, la_, lz_, ls_, i64_w, i32_w]
  rfl
 refine pure_ (i := 11) (N := some 15) (v := ?_) (a' := ?_) #[T_, T_, F_, T_, T_, F_, T_, T_, T_, T_, T_, T_, T_, F_, F_, T_, F_, F_, T_, F_, F_, T_, F_, F_, F_, F_, T_, F_, F_, F_, F_, F_, F_, F_] rfl rfl (any_of HT_.out (by kernel_rfl)) (fun _ _ _ h => h) (Or.inl ⟨by rfl, ?_⟩) ?_ ?_
 rotate_left
 ·intro w'
  go_simp
  with_reducible rfl
 rotate_left
 ·simp only [Act.put, la_, lz_, ls_, i64_w, i32_w]
  rfl
 refine take_ (i := 13) (N := some 17) (v := ?_) (a' := ?_) #[T_, T_, F_, T_, T_, F_, T_, T_, T_, T_, T_, T_, T_, T_, F_, T_, F_, F_, T_, F_, F_, T_, F_, F_, F_, F_, T_, F_, F_, F_, F_, F_, F_, F_] rfl rfl (take_ofW HT_.out HW_.out (by kernel_rfl)) (fun _ _ _ h => h) (Or.inl ⟨by rfl, ?_⟩) hHeld ?_ ?_
 rotate_left
 ·rintro w' ⟨s0, s1, s2, s3, s4, s5, s6, s7, s8⟩
  go_simp
  with_reducible rfl
 rotate_left
 ·simp only [Act.put, la_, lz_, ls_, i64_w, i32_w]
  rfl
 refine pure_ (i := 14) (N := some 18) (v := ?_) (a' := ?_) #[T_, T_, F_, T_, T_, F_, T_, T_, T_, T_, T_, T_, T_, T_, T_, T_, F_, F_, T_, F_, F_, T_, F_, F_, F_, F_, T_, F_, F_, F_, F_, F_, F_, F_] rfl rfl (any_of HT_.out (by kernel_rfl)) (fun _ _ _ h => h) (Or.inl ⟨by rfl, ?_⟩) ?_ ?_
 rotate_left
 ·intro w'
  go_simp
  with_reducible rfl
 rotate_left
 ·simp only [Act.put, la_, lz_, ls_, i64_w, i32_w]
  rfl
 refine take_ (i := 16) (N := some 20) (v := ?_) (a' := ?_) #[T_, T_, F_, T_, T_, F_, T_, T_, T_, T_, T_, T_, T_, T_, T_, T_, T_, F_, T_, F_, F_, T_, F_, F_, F_, F_, T_, F_, F_, F_, F_, F_, F_, F_] rfl rfl (take_ofW HT_.out HW_.out (by kernel_rfl)) (fun _ _ _ h => h) (Or.inl ⟨by rfl, ?_⟩) hHeld ?_ ?_
 rotate_left
 ·rintro w' ⟨s0, s1, s2, s3, s4, s5, s6, s7, s8⟩
  go_simp
  with_reducible rfl
 rotate_left
 ·simp only [Act.put, la_, lz_, ls_, i64_w, i32_w]
  rfl
 refine pure_ (i := 17) (N := some 21) (v := ?_) (a' := ?_) #[T_, T_, F_, T_, T_, F_, T_, T_, T_, T_, T_, T_, T_, T_, T_, T_, T_, T_, T_, F_, F_, T_, F_, F_, F_, F_, T_, F_, F_, F_, F_, F_, F_, F_] rfl rfl (any_of HT_.out (by kernel_rfl)) (fun _ _ _ h => h) (Or.inl ⟨by rfl, ?_⟩) ?_ ?_
 rotate_left
 ·intro w'
  go_simp
  with_reducible rfl
 rotate_left
 ·simp only [Act.put, la_, lz_, ls_, i64_w, i32_w]
  rfl
 refine take_ (i := 19) (N := some 23) (v := ?_) (a' := ?_) #[T_, T_, F_, T_, T_, F_, T_, T_, T_, T_, T_, T_, T_, T_, T_, T_, T_, T_, T_, T_, F_, T_, F_, F_, F_, F_, T_, F_, F_, F_, F_, F_, F_, F_] rfl rfl (take_ofW HT_.out HW_.out (by kernel_rfl)) (fun _ _ _ h => h) (Or.inl ⟨by rfl, ?_⟩) hHeld ?_ ?_
 rotate_left
 ·rintro w' ⟨s0, s1, s2, s3, s4, s5, s6, s7, s8⟩
  go_simp
  with_reducible rfl
 rotate_left
 ·simp only [Act.put, la_, lz_, ls_, i64_w, i32_w]
  rfl
 refine take_ (i := 22) (N := some 26) (v := ?_) (a' := ?_) #[T_, T_, F_, T_, T_, F_, T_, T_, T_, T_, T_, T_, T_, T_, T_, T_, T_, T_, T_, T_, F_, T_, T_, F_, F_, F_, T_, F_, F_, F_, F_, F_, F_, F_] rfl rfl (take_ofW HT_.out HW_.out (by kernel_rfl)) (fun _ _ _ h => h) (Or.inl ⟨by rfl, ?_⟩) hHeld ?_ ?_
 rotate_left
 ·rintro w' ⟨s0, s1, s2, s3, s4, s5, s6, s7, s8⟩
  go_simp
  with_reducible rfl
 rotate_left
 ·simp only [Act.put, la_, lz_, ls_, i64_w, i32_w]
  rfl
 refine take_ (i := 27) (N := some 31) (v := ?_) (a' := ?_) #[T_, T_, F_, T_, T_, F_, T_, T_, T_, T_, T_, T_, T_, T_, T_, T_, T_, T_, T_, T_, F_, T_, T_, F_, F_, F_, T_, T_, F_, F_, F_, F_, F_, F_] rfl rfl (take_ofW HT_.out HW_.out (by kernel_rfl)) (fun _ _ _ h => h) (Or.inl ⟨by rfl, ?_⟩) hHeld ?_ ?_
 rotate_left
 ·rintro w' ⟨s0, s1, s2, s3, s4, s5, s6, s7, s8⟩
  go_simp
  with_reducible rfl
 rotate_left
 ·simp only [Act.put, la_, lz_, ls_, i64_w, i32_w]
  rfl
 refine pure_ (i := 28) (N := some 32) (v := ?_) (a' := ?_) #[T_, T_, F_, T_, T_, F_, T_, T_, T_, T_, T_, T_, T_, T_, T_, T_, T_, T_, T_, T_, F_, T_, T_, F_, F_, F_, T_, T_, T_, F_, F_, F_, F_, F_] rfl rfl (any_of HT_.out (by kernel_rfl)) (fun _ _ _ h => h) (Or.inl ⟨by rfl, ?_⟩) ?_ ?_
 rotate_left
 ·intro w'
  go_simp
  with_reducible rfl
 rotate_left
 ·simp only [Act.put, la_, lz_, ls_, i64_w, i32_w]
  rfl
 refine pure_ (i := 29) (N := some 33) (v := ?_) (a' := ?_) #[T_, T_, F_, T_, T_, F_, T_, T_, T_, T_, T_, T_, T_, T_, T_, T_, T_, T_, T_, T_, F_, T_, T_, F_, F_, F_, T_, T_, T_, T_, F_, F_, F_, F_] rfl rfl (any_of HT_.out (by kernel_rfl)) (fun _ _ _ h => h) (Or.inl ⟨by rfl, ?_⟩) ?_ ?_
 rotate_left
 ·intro w'
  go_simp
  with_reducible rfl
 rotate_left
 ·simp only [Act.put, la_, lz_, ls_, i64_w, i32_w]
  rfl
 refine one_ (i := 2) (N := some 6) #[T_, T_, T_, T_, T_, F_, T_, T_, T_, T_, T_, T_, T_, T_, T_, T_, T_, T_, T_, T_, F_, T_, T_, F_, F_, F_, T_, T_, T_, T_, F_, F_, F_, F_] rfl rfl (one_of HT_.out (by kernel_rfl)) (by decide) (fun K hK => ?_)
 refine goes_ Try.func98 (by kernel_rfl) rfl #[.int .i64 a0_0, .int .i64 2] (by rfl) rfl rfl (by (try simp only [lm_, lo_, ln_]); try rfl) ?_
 with_reducible refine (impl_bytesOf.calls k a0_0 2 t383 _ A2.out).mono ?_
 rintro e w12 ⟨v384, rfl, ho0, hb⟩
 refine ⟨_, rfl, ?_⟩
 have n0_ := mk_ (Kd.V_elder' (by (with_reducible repeat (first | apply Kd.V_alloc | apply Kd.V_drewN | apply Kd.V_drew)); exact HO0_8.out) (Kd.R_base ho0) hb)
 have n1_ := mk_ (Kd.R_lower (Kd.R_newM (M := fun k_ => (w.heap.size ≤ k_)) ho0 (below_size (us_ HB.out)) (fun k_ h_ => h_)) (below_size (us_ HB.out)))
 have n2_ := mk_ (blk_below (u_ BK382.out) hb)
 have n3_ := mk_ (below_step (us_ HB.out) hb)
 clear HO0_8
 clear BK382
 clear HB
 have HO0_8 := n0_
 have HO385 := n1_
 have BK382 := n2_
 have HB := n3_
 clear n0_ n1_ n2_ n3_
 (try clear hb)
 (try clear hb2)
 (try clear hk)
 (try clear hi)
 (try clear ho0)
 refine hK.out _ _ ⟨(blk_cell BK382.out 0).trans rfl, (blk_cell BK382.out 1).trans rfl, (blk_cell BK382.out 2).trans rfl, (blk_cell BK382.out 3).trans rfl, (blk_cell BK382.out 4).trans rfl, (blk_cell BK382.out 5).trans rfl, (blk_cell BK382.out 6).trans rfl, (blk_cell BK382.out 7).trans rfl, (blk_cell BK382.out 8).trans rfl⟩ (fun hHeld => ?_)
 clear hK K
 refine norm_ (a' := ?_) ?_ ?_
 rotate_left
 ·show Act.put _ (some 6) _ = _
  simp only [Act.put, la_, lz_, ls_, i64_w, i32_w]
  rfl
 refine one_ (i := 5) (N := some 9) #[T_, T_, T_, T_, T_, T_, T_, T_, T_, T_, T_, T_, T_, T_, T_, T_, T_, T_, T_, T_, F_, T_, T_, F_, F_, F_, T_, T_, T_, T_, F_, F_, F_, F_] rfl rfl (one_of HT_.out (by kernel_rfl)) (by decide) (fun K hK => ?_)
 refine goes_ Try.func98 (by kernel_rfl) rfl #[.int .i64 a0_1, .int .i64 2] (by rfl) rfl rfl (by (try simp only [lm_, lo_, ln_]); try rfl) ?_
 with_reducible refine (impl_bytesOf.calls k a0_1 2 t386 _ A3.out).mono ?_
 rintro e w13 ⟨v387, rfl, ho0, hb⟩
 refine ⟨_, rfl, ?_⟩
 have n0_ := mk_ (Kd.V_elder' (by (with_reducible repeat (first | apply Kd.V_alloc | apply Kd.V_drewN | apply Kd.V_drew)); exact HO0_8.out) (Kd.R_base ho0) hb)
 have n1_ := mk_ (Kd.R_elder' (Kd.ur_ HO385.out) (Kd.R_base ho0) hb)
 have n2_ := mk_ (Kd.R_lower (Kd.R_new' (Kd.R_newM (M := fun k_ => (w.heap.size ≤ k_)) ho0 (below_size (us_ HB.out)) (fun k_ h_ => h_)) (Kd.R_lt (Kd.ur_ HO385.out))) (below_size (us_ HB.out)))
 have n3_ := mk_ (blk_below (u_ BK382.out) hb)
 have n4_ := mk_ (below_step (us_ HB.out) hb)
 clear HO0_8
 clear HO385
 clear BK382
 clear HB
 have HO0_8 := n0_
 have HO385 := n1_
 have HO388 := n2_
 have BK382 := n3_
 have HB := n4_
 clear n0_ n1_ n2_ n3_ n4_
 (try clear hb)
 (try clear hb2)
 (try clear hk)
 (try clear hi)
 (try clear ho0)
 refine hK.out _ _ ⟨(blk_cell BK382.out 0).trans rfl, (blk_cell BK382.out 1).trans rfl, (blk_cell BK382.out 2).trans rfl, (blk_cell BK382.out 3).trans rfl, (blk_cell BK382.out 4).trans rfl, (blk_cell BK382.out 5).trans rfl, (blk_cell BK382.out 6).trans rfl, (blk_cell BK382.out 7).trans rfl, (blk_cell BK382.out 8).trans rfl⟩ (fun hHeld => ?_)
 clear hK K
 refine norm_ (a' := ?_) ?_ ?_
 rotate_left
 ·show Act.put _ (some 9) _ = _
  simp only [Act.put, la_, lz_, ls_, i64_w, i32_w]
  rfl
 refine one_ (i := 20) (N := some 24) #[T_, T_, T_, T_, T_, T_, T_, T_, T_, T_, T_, T_, T_, T_, T_, T_, T_, T_, T_, T_, T_, T_, T_, F_, F_, F_, T_, T_, T_, T_, F_, F_, F_, F_] rfl rfl (one_of HT_.out (by kernel_rfl)) (by decide) (fun K hK => ?_)
 refine goes_ Try.func107 (by kernel_rfl) rfl #[.bool a0_6, .int .i64 1] (by rfl) rfl rfl (by (try simp only [lm_, lo_, ln_]); try rfl) ?_
 with_reducible refine (impl_bit.calls a0_6 1 t389 _ A4.out).mono ?_
 rintro e w' ⟨rfl, ⟨nd, rfl⟩⟩
 refine ⟨_, rfl, ?_⟩
 refine hK.out _ _ ⟨(blk_cell BK382.out 0).trans rfl, (blk_cell BK382.out 1).trans rfl, (blk_cell BK382.out 2).trans rfl, (blk_cell BK382.out 3).trans rfl, (blk_cell BK382.out 4).trans rfl, (blk_cell BK382.out 5).trans rfl, (blk_cell BK382.out 6).trans rfl, (blk_cell BK382.out 7).trans rfl, (blk_cell BK382.out 8).trans rfl⟩ (fun hHeld => ?_)
 clear hK K
 refine norm_ (a' := ?_) ?_ ?_
 rotate_left
 ·show Act.put _ (some 24) _ = _
  simp only [Act.put, la_, lz_, ls_, i64_w, i32_w]
  rfl
 refine one_ (i := 23) (N := some 27) #[T_, T_, T_, T_, T_, T_, T_, T_, T_, T_, T_, T_, T_, T_, T_, T_, T_, T_, T_, T_, T_, T_, T_, T_, F_, F_, T_, T_, T_, T_, F_, F_, F_, F_] rfl rfl (one_of HT_.out (by kernel_rfl)) (by decide) (fun K hK => ?_)
 refine goes_ Try.func107 (by kernel_rfl) rfl #[.bool a0_7, .int .i64 2] (by rfl) rfl rfl (by (try simp only [lm_, lo_, ln_]); try rfl) ?_
 with_reducible refine (impl_bit.calls a0_7 2 t390 _ A5.out).mono ?_
 rintro e w' ⟨rfl, ⟨nd, rfl⟩⟩
 refine ⟨_, rfl, ?_⟩
 refine hK.out _ _ ⟨(blk_cell BK382.out 0).trans rfl, (blk_cell BK382.out 1).trans rfl, (blk_cell BK382.out 2).trans rfl, (blk_cell BK382.out 3).trans rfl, (blk_cell BK382.out 4).trans rfl, (blk_cell BK382.out 5).trans rfl, (blk_cell BK382.out 6).trans rfl, (blk_cell BK382.out 7).trans rfl, (blk_cell BK382.out 8).trans rfl⟩ (fun hHeld => ?_)
 clear hK K
 refine norm_ (a' := ?_) ?_ ?_
 rotate_left
 ·show Act.put _ (some 27) _ = _
  simp only [Act.put, la_, lz_, ls_, i64_w, i32_w]
  rfl
 refine pure_ (i := 24) (N := some 28) (v := ?_) (a' := ?_) #[T_, T_, T_, T_, T_, T_, T_, T_, T_, T_, T_, T_, T_, T_, T_, T_, T_, T_, T_, T_, T_, T_, T_, T_, T_, F_, T_, T_, T_, T_, F_, F_, F_, F_] rfl rfl (any_of HT_.out (by kernel_rfl)) (fun _ _ _ h => h) (Or.inl ⟨by rfl, ?_⟩) ?_ ?_
 rotate_left
 ·intro w'
  go_simp
  with_reducible rfl
 rotate_left
 ·simp only [Act.put, la_, lz_, ls_, i64_w, i32_w]
  rfl
 refine pure_ (i := 25) (N := some 29) (v := ?_) (a' := ?_) #[T_, T_, T_, T_, T_, T_, T_, T_, T_, T_, T_, T_, T_, T_, T_, T_, T_, T_, T_, T_, T_, T_, T_, T_, T_, T_, T_, T_, T_, T_, F_, F_, F_, F_] rfl rfl (any_of HT_.out (by kernel_rfl)) (fun _ _ _ h => h) (Or.inl ⟨by rfl, ?_⟩) ?_ ?_
 rotate_left
 ·intro w'
  go_simp
  with_reducible rfl
 rotate_left
 ·simp only [Act.put, la_, lz_, ls_, i64_w, i32_w]
  rfl
 refine one_ (i := 30) (N := some 34) #[T_, T_, T_, T_, T_, T_, T_, T_, T_, T_, T_, T_, T_, T_, T_, T_, T_, T_, T_, T_, T_, T_, T_, T_, T_, T_, T_, T_, T_, T_, T_, F_, F_, F_] rfl rfl (one_of HT_.out (by kernel_rfl)) (by decide) (fun K hK => ?_)
 refine Kd.R_lit_step (Kd.int .u8) _ 5 ?hg (N := 34) ?hd (xs := ([(a0_2) % 256, (a0_3) % 256, (a0_4) % 256, (a0_5) % 256, (wrap64 (t389 + t390)) % 256, ((l0_8.length : Int)) % 256] : List Int)) (inner := [.int .u8 ((a0_2) % 256), .int .u8 ((a0_3) % 256), .int .u8 ((a0_4) % 256), .int .u8 ((a0_5) % 256), .int .u8 ((wrap64 (t389 + t390)) % 256), .int .u8 (((l0_8.length : Int)) % 256)]) (ok := fun _ => True) (okp := fun _ => True) ?hr ?hp (fun _ hk => hk) trivial (Below.refl _ _) (Nat.le_refl _) (by simp) ?_; (case hd => rfl); (case hg => rfl); (case hr => first | (go_simp; done) | (go_simp; rfl)); (case hp => exact (Reps.one (show Kd.M (Kd.int .u8) _ _ _ ((a0_2) % 256) [.int .u8 ((a0_2) % 256)] from rfl) (Reps.one (show Kd.M (Kd.int .u8) _ _ _ ((a0_3) % 256) [.int .u8 ((a0_3) % 256)] from rfl) (Reps.one (show Kd.M (Kd.int .u8) _ _ _ ((a0_4) % 256) [.int .u8 ((a0_4) % 256)] from rfl) (Reps.one (show Kd.M (Kd.int .u8) _ _ _ ((a0_5) % 256) [.int .u8 ((a0_5) % 256)] from rfl) (Reps.one (show Kd.M (Kd.int .u8) _ _ _ ((wrap64 (t389 + t390)) % 256) [.int .u8 ((wrap64 (t389 + t390)) % 256)] from rfl) (Reps.one (show Kd.M (Kd.int .u8) _ _ _ (((l0_8.length : Int)) % 256) [.int .u8 (((l0_8.length : Int)) % 256)] from rfl) (Reps.none _ _))))))))
 intro v392 w14 ho15 hb hg_ hnew_
 clear hg_ hnew_
 (first | rw [← Ny391.out] at ho15 | (simp only [Int.reduceToNat] at ho15; rw [← Ny391.out] at ho15))
 have n0_ := mk_ (Kd.V_elder' (by (with_reducible repeat (first | apply Kd.V_alloc | apply Kd.V_drewN | apply Kd.V_drew)); exact HO0_8.out) (Kd.R_base ho15) hb)
 have n1_ := mk_ (Kd.R_elder' (Kd.ur_ HO385.out) (Kd.R_base ho15) hb)
 have n2_ := mk_ (Kd.R_elder' (Kd.ur_ HO388.out) (Kd.R_base ho15) hb)
 have n3_ := mk_ (Kd.R_lower (Kd.R_new' (Kd.R_new' (Kd.R_newM (M := fun k_ => (w.heap.size ≤ k_)) ho15 (below_size (us_ HB.out)) (fun k_ h_ => h_)) (Kd.R_lt (Kd.ur_ HO385.out))) (Kd.R_lt (Kd.ur_ HO388.out))) (below_size (us_ HB.out)))
 have n4_ := mk_ (blk_below (u_ BK382.out) hb)
 have n5_ := mk_ (below_step (us_ HB.out) hb)
 clear HO0_8
 clear HO385
 clear HO388
 clear BK382
 clear HB
 have HO0_8 := n0_
 have HO385 := n1_
 have HO388 := n2_
 have HO393 := n3_
 have BK382 := n4_
 have HB := n5_
 clear n0_ n1_ n2_ n3_ n4_ n5_
 clear hb ho15
 obtain ⟨Ao16, co16, eo16⟩ := Kd.R_slice HO385.out
 (first | subst eo16 | (injection eo16 with f1_ f2_ f3_; have f4_ := f1_.symm; have f5_ := f3_.symm; clear f1_ f2_ f3_; subst f4_; subst f5_))
 obtain ⟨Ao17, co17, eo17⟩ := Kd.R_slice HO388.out
 (first | subst eo17 | (injection eo17 with f1_ f2_ f3_; have f4_ := f1_.symm; have f5_ := f3_.symm; clear f1_ f2_ f3_; subst f4_; subst f5_))
 obtain ⟨Ao18, co18, eo18⟩ := Kd.R_slice HO393.out
 (first | subst eo18 | (injection eo18 with f1_ f2_ f3_; have f4_ := f1_.symm; have f5_ := f3_.symm; clear f1_ f2_ f3_; subst f4_; subst f5_))
 refine hK.out _ _ ⟨(blk_cell BK382.out 0).trans rfl, (blk_cell BK382.out 1).trans rfl, (blk_cell BK382.out 2).trans rfl, (blk_cell BK382.out 3).trans rfl, (blk_cell BK382.out 4).trans rfl, (blk_cell BK382.out 5).trans rfl, (blk_cell BK382.out 6).trans rfl, (blk_cell BK382.out 7).trans rfl, (blk_cell BK382.out 8).trans rfl⟩ (fun hHeld => ?_)
 clear hK K
 refine norm_ (a' := ?_) ?_ ?_
 rotate_left
 ·show Act.put _ (some 34) _ = _
  simp only [Act.put, la_, lz_, ls_, i64_w, i32_w]
  rfl
 refine one_ (i := 31) (N := some 35) #[T_, T_, T_, T_, T_, T_, T_, T_, T_, T_, T_, T_, T_, T_, T_, T_, T_, T_, T_, T_, T_, T_, T_, T_, T_, T_, T_, T_, T_, T_, T_, T_, F_, F_] rfl rfl (one_of HT_.out (by kernel_rfl)) (by decide) (fun K hK => ?_)
 refine Kd.N_lit_step (Kd.slice 5 (Kd.int .u8)) _ 22 ?hg (N' := 35) ?hd (xs := ([t383, t386, y391] : List (List Int))) (inner := [.slice Ao16 t383.length co16, .slice Ao17 t386.length co17, .slice Ao18 y391.length co18]) (ok := (fun k_ => (P0_8_ k_ ∨ w.heap.size ≤ k_) ∧ k_ ≠ gb382)) (okp := (fun k_ => (P0_8_ k_ ∨ w.heap.size ≤ k_) ∧ k_ ≠ gb382)) ?hr ?hp (fun _ hk => hk) ((show ∀ k_, w14.heap.size ≤ k_ → (fun k_ => (P0_8_ k_ ∨ w.heap.size ≤ k_) ∧ k_ ≠ gb382) k_ from fun k_ hk => ⟨(.inr (Nat.le_trans (below_size (us_ HB.out)) hk)), Kd.freshB (g := gb382) (o := .cells #[.int .i64 a0_0, .int .i64 a0_1, .int .i64 a0_2, .int .i64 a0_3, .int .i64 a0_4, .int .i64 a0_5, .bool a0_6, .bool a0_7, .slice A0_8 l0_8.length c0_8] 37 (0, 0)) (u_ BK382.out) k_ hk⟩) _ (Nat.le_refl _)) (Below.refl _ _) (Nat.le_refl _) (by simp) ?_; (case hd => rfl); (case hg => rfl); (case hr => first | (go_simp; done) | (go_simp; rfl)); (case hp => exact (Reps.one (show Kd.FK (Kd.slice 5 (Kd.int .u8)) _ _ t383 [.slice Ao16 t383.length co16] from (Kd.FK_slice_mk (Kd.R_reads' (Kd.R_mono (ok' := (fun k_ => (P0_8_ k_ ∨ w.heap.size ≤ k_) ∧ k_ ≠ gb382)) (Kd.R_types (HO385.out) BK382.out (by decide)) (fun k_ hk => by first | exact ⟨(.inr (hk.1.1.1.1)), hk.2⟩ | exact hk.1 | exact hk | exact ⟨hk.1, hk.2⟩ | exact ⟨.inr hk.1, hk.2⟩ | simp only [hk, ne_eq, not_false_eq_true, and_self]))).2.1 (Kd.R_F (Kd.R_mono (ok' := (fun k_ => (P0_8_ k_ ∨ w.heap.size ≤ k_) ∧ k_ ≠ gb382)) (Kd.R_types (HO385.out) BK382.out (by decide)) (fun k_ hk => by first | exact ⟨(.inr (hk.1.1.1.1)), hk.2⟩ | exact hk.1 | exact hk | exact ⟨hk.1, hk.2⟩ | exact ⟨.inr hk.1, hk.2⟩ | simp only [hk, ne_eq, not_false_eq_true, and_self]))))) (Reps.one (show Kd.FK (Kd.slice 5 (Kd.int .u8)) _ _ t386 [.slice Ao17 t386.length co17] from (Kd.FK_slice_mk (Kd.R_reads' (Kd.R_mono (ok' := (fun k_ => (P0_8_ k_ ∨ w.heap.size ≤ k_) ∧ k_ ≠ gb382)) (Kd.R_types (HO388.out) BK382.out (by decide)) (fun k_ hk => by first | exact ⟨(.inr (hk.1.1.1.1)), hk.2⟩ | exact hk.1 | exact hk | exact ⟨hk.1, hk.2⟩ | exact ⟨.inr hk.1, hk.2⟩ | simp only [hk, ne_eq, not_false_eq_true, and_self]))).2.1 (Kd.R_F (Kd.R_mono (ok' := (fun k_ => (P0_8_ k_ ∨ w.heap.size ≤ k_) ∧ k_ ≠ gb382)) (Kd.R_types (HO388.out) BK382.out (by decide)) (fun k_ hk => by first | exact ⟨(.inr (hk.1.1.1.1)), hk.2⟩ | exact hk.1 | exact hk | exact ⟨hk.1, hk.2⟩ | exact ⟨.inr hk.1, hk.2⟩ | simp only [hk, ne_eq, not_false_eq_true, and_self]))))) (Reps.one (show Kd.FK (Kd.slice 5 (Kd.int .u8)) _ _ y391 [.slice Ao18 y391.length co18] from (Kd.FK_slice_mk (Kd.R_reads' (Kd.R_mono (ok' := (fun k_ => (P0_8_ k_ ∨ w.heap.size ≤ k_) ∧ k_ ≠ gb382)) (Kd.R_types (HO393.out) BK382.out (by decide)) (fun k_ hk => by first | exact ⟨(.inr (hk.1.1.1.1)), hk.2⟩ | exact hk.1 | exact hk | exact ⟨hk.1, hk.2⟩ | exact ⟨.inr hk.1, hk.2⟩ | simp only [hk, ne_eq, not_false_eq_true, and_self]))).2.1 (Kd.R_F (Kd.R_mono (ok' := (fun k_ => (P0_8_ k_ ∨ w.heap.size ≤ k_) ∧ k_ ≠ gb382)) (Kd.R_types (HO393.out) BK382.out (by decide)) (fun k_ hk => by first | exact ⟨(.inr (hk.1.1.1.1)), hk.2⟩ | exact hk.1 | exact hk | exact ⟨hk.1, hk.2⟩ | exact ⟨.inr hk.1, hk.2⟩ | simp only [hk, ne_eq, not_false_eq_true, and_self]))))) (Reps.none _ _)))))
 intro v395 w19 ho20 hb hg_ hnew_
 clear hg_ hnew_
 (first | rw [← Ny394.out] at ho20 | (simp only [Int.reduceToNat] at ho20; rw [← Ny394.out] at ho20))
 have n0_ := mk_ (Kd.V_elder' (by (with_reducible repeat (first | apply Kd.V_alloc | apply Kd.V_drewN | apply Kd.V_drew)); exact HO0_8.out) (Kd.N_base ho20) hb)
 have n1_ := mk_ (Kd.N_lower ho20 (below_size (us_ HB.out)))
 have n2_ := mk_ (blk_below (u_ BK382.out) hb)
 have n3_ := mk_ (below_step (us_ HB.out) hb)
 clear HO0_8
 clear BK382
 clear HB
 clear HO385
 clear HO388
 clear HO393
 have HO0_8 := n0_
 have HO396 := n1_
 have BK382 := n2_
 have HB := n3_
 clear n0_ n1_ n2_ n3_
 clear hb ho20
 obtain ⟨Ao21, co21, eo21⟩ := Kd.N_slice HO396.out
 (first | subst eo21 | (injection eo21 with f1_ f2_ f3_; have f4_ := f1_.symm; have f5_ := f3_.symm; clear f1_ f2_ f3_; subst f4_; subst f5_))
 refine hK.out _ _ ⟨(blk_cell BK382.out 0).trans rfl, (blk_cell BK382.out 1).trans rfl, (blk_cell BK382.out 2).trans rfl, (blk_cell BK382.out 3).trans rfl, (blk_cell BK382.out 4).trans rfl, (blk_cell BK382.out 5).trans rfl, (blk_cell BK382.out 6).trans rfl, (blk_cell BK382.out 7).trans rfl, (blk_cell BK382.out 8).trans rfl⟩ (fun hHeld => ?_)
 clear hK K
 refine norm_ (a' := ?_) ?_ ?_
 rotate_left
 ·show Act.put _ (some 35) _ = _
  simp only [Act.put, la_, lz_, ls_, i64_w, i32_w]
  rfl
 refine one_ (i := 32) (N := some 36) #[T_, T_, T_, T_, T_, T_, T_, T_, T_, T_, T_, T_, T_, T_, T_, T_, T_, T_, T_, T_, T_, T_, T_, T_, T_, T_, T_, T_, T_, T_, T_, T_, T_, F_] rfl rfl (one_of HT_.out (by kernel_rfl)) (by decide) (fun K hK => ?_)
 refine goes_ Try.func106 (by kernel_rfl) rfl #[.slice Ao21 y394.length co21] (by rfl) rfl rfl (by (try simp only [lm_, lo_, ln_]); try rfl) ?_
 with_reducible refine (slices_Concat_byte_byte.calls _ _ y394 t397 _ ?side1 ?side2 A6.out).mono ?_
 (case side1 => repeat (first | exact (Kd.N_reads' HO396.out).2.2 | (with_reducible refine Kd.C_alloc ?_ _) | (with_reducible refine Kd.C_drewN ?_ _) | (with_reducible refine Kd.C_drew ?_)))
 (case side2 => exact (Kd.N_reads' HO396.out).2.1)
 rintro e w22 ⟨v398, rfl, ho0, hb⟩
 refine ⟨_, rfl, ?_⟩
 have n0_ := mk_ (Kd.V_elder' (by (with_reducible repeat (first | apply Kd.V_alloc | apply Kd.V_drewN | apply Kd.V_drew)); exact HO0_8.out) (Kd.R_base ho0) hb)
 have n1_ := mk_ (Kd.N_elder' (by (with_reducible repeat (first | apply Kd.N_alloc | apply Kd.N_drewN | apply Kd.N_drew)); exact HO396.out) (Kd.R_base ho0) hb)
 have n2_ := mk_ (Kd.R_lower (Kd.R_newM (M := fun k_ => (w.heap.size ≤ k_)) ho0 (below_size (us_ HB.out)) (fun k_ h_ => h_)) (below_size (us_ HB.out)))
 have n3_ := mk_ (blk_below (u_ BK382.out) hb)
 have n4_ := mk_ (below_step (us_ HB.out) hb)
 clear HO0_8
 clear HO396
 clear BK382
 clear HB
 have HO0_8 := n0_
 have HO396 := n1_
 have HO399 := n2_
 have BK382 := n3_
 have HB := n4_
 clear n0_ n1_ n2_ n3_ n4_
 (try clear hb)
 (try clear hb2)
 (try clear hk)
 (try clear hi)
 (try clear ho0)
 refine hK.out _ _ ⟨(blk_cell BK382.out 0).trans rfl, (blk_cell BK382.out 1).trans rfl, (blk_cell BK382.out 2).trans rfl, (blk_cell BK382.out 3).trans rfl, (blk_cell BK382.out 4).trans rfl, (blk_cell BK382.out 5).trans rfl, (blk_cell BK382.out 6).trans rfl, (blk_cell BK382.out 7).trans rfl, (blk_cell BK382.out 8).trans rfl⟩ (fun hHeld => ?_)
 clear hK K
 refine norm_ (a' := ?_) ?_ ?_
 rotate_left
 ·show Act.put _ (some 36) _ = _
  simp only [Act.put, la_, lz_, ls_, i64_w, i32_w]
  rfl
 refine pure_ (i := 33) (N := some 3) (v := ?_) (a' := ?_) #[T_, T_, T_, T_, T_, T_, T_, T_, T_, T_, T_, T_, T_, T_, T_, T_, T_, T_, T_, T_, T_, T_, T_, T_, T_, T_, T_, T_, T_, T_, T_, T_, T_, T_] rfl rfl (any_of HT_.out (by kernel_rfl)) (fun _ _ _ h => h) (Or.inl ⟨by rfl, ?_⟩) ?_ ?_
 rotate_left
 ·intro w'
  go_simp
  with_reducible rfl
 rotate_left
 ·simp only [Act.put, la_, lz_, ls_, i64_w, i32_w]
  rfl
 refine done_ (done_of HT_.out (by kernel_rfl)) ?_
 try go_wp2
 have n0_ := mk_ (Kd.V_drew HO0_8.out)
 have n1_ := mk_ (Kd.N_drew HO396.out)
 have n2_ := mk_ (Kd.R_drew HO399.out)
 have n3_ := mk_ (blk_drew BK382.out)
 have n4_ := mk_ (below_drew1 HB.out)
 clear HO0_8
 clear HO396
 clear HO399
 clear BK382
 clear HB
 have HO0_8 := n0_
 have HO396 := n1_
 have HO399 := n2_
 have BK382 := n3_
 have HB := n4_
 clear n0_ n1_ n2_ n3_ n4_
 obtain ⟨Ao24, co24, eo24⟩ := Kd.R_slice HO399.out
 (first | subst eo24 | (injection eo24 with f1_ f2_ f3_; have f4_ := f1_.symm; have f5_ := f3_.symm; clear f1_ f2_ f3_; subst f4_; subst f5_))
 refine start_ (n := 9) (S := fun w' => w'.cell? ⟨gb382, 0, none⟩ = some (.int .i64 a0_0) ∧ w'.cell? ⟨gb382, 1, none⟩ = some (.int .i64 a0_1) ∧ w'.cell? ⟨gb382, 2, none⟩ = some (.int .i64 a0_2) ∧ w'.cell? ⟨gb382, 3, none⟩ = some (.int .i64 a0_3) ∧ w'.cell? ⟨gb382, 4, none⟩ = some (.int .i64 a0_4) ∧ w'.cell? ⟨gb382, 5, none⟩ = some (.int .i64 a0_5) ∧ w'.cell? ⟨gb382, 6, none⟩ = some (.bool a0_6) ∧ w'.cell? ⟨gb382, 7, none⟩ = some (.bool a0_7) ∧ w'.cell? ⟨gb382, 8, none⟩ = some (.slice A0_8 l0_8.length c0_8)) (ds := []) #[F_, F_, F_, F_, F_, F_, F_, F_, F_] (by kernel_rfl) rfl rfl ⟨(blk_cell BK382.out 0).trans rfl, (blk_cell BK382.out 1).trans rfl, (blk_cell BK382.out 2).trans rfl, (blk_cell BK382.out 3).trans rfl, (blk_cell BK382.out 4).trans rfl, (blk_cell BK382.out 5).trans rfl, (blk_cell BK382.out 6).trans rfl, (blk_cell BK382.out 7).trans rfl, (blk_cell BK382.out 8).trans rfl⟩ (fun hHeld => ?_); refine with_tabW impl_packetBytes.tab2 impl_packetBytes.bits2 (fun HT_ HW_ => ?_)
 generalize w22.drew = w23 at HO0_8 HO396 HO399 BK382 HB hHeld ⊢
 refine pure_ (i := 0) (N := some 37) (v := ?_) (a' := ?_) #[T_, F_, F_, F_, F_, F_, F_, F_, F_] rfl rfl (any_of HT_.out (by kernel_rfl)) (fun _ _ _ h => h) (Or.inl ⟨by rfl, ?_⟩) ?_ ?_
 rotate_left
 ·intro w'
  go_simp
  with_reducible rfl
 rotate_left
 ·simp only [Act.put, la_, lz_, ls_, i64_w, i32_w]
  rfl
 refine pure_ (i := 1) (N := some 38) (v := ?_) (a' := ?_) #[T_, T_, F_, F_, F_, F_, F_, F_, F_] rfl rfl (any_of HT_.out (by kernel_rfl)) (fun _ _ _ h => h) (Or.inl ⟨by rfl, ?_⟩) ?_ ?_
 rotate_left
 ·intro w'
  go_simp
  with_reducible rfl
 rotate_left
 ·simp only [Act.put, la_, lz_, ls_, i64_w, i32_w]
  rfl
 refine pure_ (i := 4) (N := some 41) (v := ?_) (a' := ?_) #[T_, T_, F_, F_, T_, F_, F_, F_, F_] rfl rfl (any_of HT_.out (by kernel_rfl)) (fun _ _ _ h => h) (Or.inl ⟨by rfl, ?_⟩) ?_ ?_
 rotate_left
 ·intro w'
  go_simp
  with_reducible rfl
 rotate_left
 ·simp only [Act.put, la_, lz_, ls_, i64_w, i32_w]
  rfl
 refine take_ (i := 5) (N := some 42) (v := ?_) (a' := ?_) #[T_, T_, F_, F_, T_, T_, F_, F_, F_] rfl rfl (take_ofW HT_.out HW_.out (by kernel_rfl)) (fun _ _ _ h => h) (Or.inl ⟨by rfl, ?_⟩) hHeld ?_ ?_
 rotate_left
 ·rintro w' ⟨s0, s1, s2, s3, s4, s5, s6, s7, s8⟩
  go_simp
  with_reducible rfl
 rotate_left
 ·simp only [Act.put, la_, lz_, ls_, i64_w, i32_w]
  rfl
 refine one_ (i := 2) (N := some 39) #[T_, T_, T_, F_, T_, T_, F_, F_, F_] rfl rfl (one_of HT_.out (by kernel_rfl)) (by decide) (fun K hK => ?_)
 refine goes_ Try.func108 (by kernel_rfl) rfl #[.slice Ao24 t397.length co24] (by rfl) rfl rfl (by (try simp only [lm_, lo_, ln_]); try rfl) ?_
 with_reducible refine (impl_sumOf.calls _ _ t397 t400 _ ?side1 ?side2 A7.out).mono ?_
 (case side1 => repeat (first | exact (Kd.R_reads' HO399.out).2.2 | (with_reducible refine Kd.C_alloc ?_ _) | (with_reducible refine Kd.C_drewN ?_ _) | (with_reducible refine Kd.C_drew ?_)))
 (case side2 => exact (Kd.R_reads' HO399.out).2.1)
 rintro e w25 ⟨rfl, hb⟩
 refine ⟨_, rfl, ?_⟩
 have n0_ := mk_ (Kd.V_below (by (with_reducible repeat (first | apply Kd.V_alloc | apply Kd.V_drewN | apply Kd.V_drew)); exact HO0_8.out) hb)
 have n1_ := mk_ (Kd.N_below (by (with_reducible repeat (first | apply Kd.N_alloc | apply Kd.N_drewN | apply Kd.N_drew)); exact HO396.out) hb)
 have n2_ := mk_ (Kd.R_below (Kd.ur_ HO399.out) hb)
 have n3_ := mk_ (blk_below (u_ BK382.out) hb)
 have n4_ := mk_ (below_step (us_ HB.out) hb)
 clear HO0_8
 clear HO396
 clear HO399
 clear BK382
 clear HB
 have HO0_8 := n0_
 have HO396 := n1_
 have HO399 := n2_
 have BK382 := n3_
 have HB := n4_
 clear n0_ n1_ n2_ n3_ n4_
 (try clear hb)
 (try clear hb2)
 (try clear hk)
 (try clear hi)
 refine hK.out _ _ ⟨(blk_cell BK382.out 0).trans rfl, (blk_cell BK382.out 1).trans rfl, (blk_cell BK382.out 2).trans rfl, (blk_cell BK382.out 3).trans rfl, (blk_cell BK382.out 4).trans rfl, (blk_cell BK382.out 5).trans rfl, (blk_cell BK382.out 6).trans rfl, (blk_cell BK382.out 7).trans rfl, (blk_cell BK382.out 8).trans rfl⟩ (fun hHeld => ?_)
 clear hK K
 refine norm_ (a' := ?_) ?_ ?_
 rotate_left
 ·show Act.put _ (some 39) _ = _
  simp only [Act.put, la_, lz_, ls_, i64_w, i32_w]
  rfl
 refine one_ (i := 3) (N := some 40) #[T_, T_, T_, T_, T_, T_, F_, F_, F_] rfl rfl (one_of HT_.out (by kernel_rfl)) (by decide) (fun K hK => ?_)
 refine goes_ Try.func98 (by kernel_rfl) rfl #[.int .i64 t400, .int .i64 2] (by rfl) rfl rfl (by (try simp only [lm_, lo_, ln_]); try rfl) ?_
 with_reducible refine (impl_bytesOf.calls k t400 2 t401 _ A8.out).mono ?_
 rintro e w26 ⟨v402, rfl, ho0, hb⟩
 refine ⟨_, rfl, ?_⟩
 have n0_ := mk_ (Kd.V_elder' (by (with_reducible repeat (first | apply Kd.V_alloc | apply Kd.V_drewN | apply Kd.V_drew)); exact HO0_8.out) (Kd.R_base ho0) hb)
 have n1_ := mk_ (Kd.N_elder' (by (with_reducible repeat (first | apply Kd.N_alloc | apply Kd.N_drewN | apply Kd.N_drew)); exact HO396.out) (Kd.R_base ho0) hb)
 have n2_ := mk_ (Kd.R_elder' (Kd.ur_ HO399.out) (Kd.R_base ho0) hb)
 have n3_ := mk_ (Kd.R_lower (Kd.R_new' (Kd.R_newM (M := fun k_ => (w.heap.size ≤ k_)) ho0 (below_size (us_ HB.out)) (fun k_ h_ => h_)) (Kd.R_lt (Kd.ur_ HO399.out))) (below_size (us_ HB.out)))
 have n4_ := mk_ (blk_below (u_ BK382.out) hb)
 have n5_ := mk_ (below_step (us_ HB.out) hb)
 clear HO0_8
 clear HO396
 clear HO399
 clear BK382
 clear HB
 have HO0_8 := n0_
 have HO396 := n1_
 have HO399 := n2_
 have HO403 := n3_
 have BK382 := n4_
 have HB := n5_
 clear n0_ n1_ n2_ n3_ n4_ n5_
 (try clear hb)
 (try clear hb2)
 (try clear hk)
 (try clear hi)
 (try clear ho0)
 obtain ⟨Ao27, co27, eo27⟩ := Kd.R_slice HO403.out
 (first | subst eo27 | (injection eo27 with f1_ f2_ f3_; have f4_ := f1_.symm; have f5_ := f3_.symm; clear f1_ f2_ f3_; subst f4_; subst f5_))
 refine hK.out _ _ ⟨(blk_cell BK382.out 0).trans rfl, (blk_cell BK382.out 1).trans rfl, (blk_cell BK382.out 2).trans rfl, (blk_cell BK382.out 3).trans rfl, (blk_cell BK382.out 4).trans rfl, (blk_cell BK382.out 5).trans rfl, (blk_cell BK382.out 6).trans rfl, (blk_cell BK382.out 7).trans rfl, (blk_cell BK382.out 8).trans rfl⟩ (fun hHeld => ?_)
 clear hK K
 refine norm_ (a' := ?_) ?_ ?_
 rotate_left
 ·show Act.put _ (some 40) _ = _
  simp only [Act.put, la_, lz_, ls_, i64_w, i32_w]
  rfl
 refine one_ (i := 6) (N := some 43) #[T_, T_, T_, T_, T_, T_, T_, F_, F_] rfl rfl (one_of HT_.out (by kernel_rfl)) (by decide) (fun K hK => ?_)
 refine Kd.N_lit_step (Kd.slice 5 (Kd.int .u8)) _ 22 ?hg (N' := 43) ?hd (xs := ([t397, t401, l0_8] : List (List Int))) (inner := [.slice Ao24 t397.length co24, .slice Ao27 t401.length co27, .slice A0_8 l0_8.length c0_8]) (ok := (fun k_ => (P0_8_ k_ ∨ w.heap.size ≤ k_) ∧ some k_ ≠ (.slice Ao21 y394.length co21 : Value).ownBlock ∧ k_ ≠ gb382)) (okp := (fun k_ => (P0_8_ k_ ∨ w.heap.size ≤ k_) ∧ some k_ ≠ (.slice Ao21 y394.length co21 : Value).ownBlock ∧ k_ ≠ gb382)) ?hr ?hp (fun _ hk => hk) ((show ∀ k_, w26.heap.size ≤ k_ → (fun k_ => (P0_8_ k_ ∨ w.heap.size ≤ k_) ∧ some k_ ≠ (.slice Ao21 y394.length co21 : Value).ownBlock ∧ k_ ≠ gb382) k_ from fun k_ hk => ⟨(.inr (Nat.le_trans (below_size (us_ HB.out)) hk)), Kd.fresh' (Kd.N_lt (by (with_reducible repeat (first | apply Kd.N_alloc | apply Kd.N_drewN | apply Kd.N_drew)); exact HO396.out)) k_ hk, Kd.freshB (g := gb382) (o := .cells #[.int .i64 a0_0, .int .i64 a0_1, .int .i64 a0_2, .int .i64 a0_3, .int .i64 a0_4, .int .i64 a0_5, .bool a0_6, .bool a0_7, .slice A0_8 l0_8.length c0_8] 37 (0, 0)) (u_ BK382.out) k_ hk⟩) _ (Nat.le_refl _)) (Below.refl _ _) (Nat.le_refl _) (by simp) ?_; (case hd => rfl); (case hg => rfl); (case hr => first | (go_simp; done) | (go_simp; rfl)); (case hp => exact (Reps.one (show Kd.FK (Kd.slice 5 (Kd.int .u8)) _ _ t397 [.slice Ao24 t397.length co24] from (Kd.FK_slice_mk (Kd.R_reads' (Kd.R_mono (ok' := (fun k_ => (P0_8_ k_ ∨ w.heap.size ≤ k_) ∧ some k_ ≠ (.slice Ao21 y394.length co21 : Value).ownBlock ∧ k_ ≠ gb382)) (Kd.R_types (Kd.R_apart' (HO399.out) (Kd.N_typed HO396.out) (by decide)) BK382.out (by decide)) (fun k_ hk => by first | exact ⟨(.inr (hk.1.1.1.1)), ⟨hk.1.2, hk.2⟩⟩ | exact hk.1 | exact hk | exact ⟨hk.1, hk.2⟩ | exact ⟨.inr hk.1, hk.2⟩ | simp only [hk, ne_eq, not_false_eq_true, and_self]))).2.1 (Kd.R_F (Kd.R_mono (ok' := (fun k_ => (P0_8_ k_ ∨ w.heap.size ≤ k_) ∧ some k_ ≠ (.slice Ao21 y394.length co21 : Value).ownBlock ∧ k_ ≠ gb382)) (Kd.R_types (Kd.R_apart' (HO399.out) (Kd.N_typed HO396.out) (by decide)) BK382.out (by decide)) (fun k_ hk => by first | exact ⟨(.inr (hk.1.1.1.1)), ⟨hk.1.2, hk.2⟩⟩ | exact hk.1 | exact hk | exact ⟨hk.1, hk.2⟩ | exact ⟨.inr hk.1, hk.2⟩ | simp only [hk, ne_eq, not_false_eq_true, and_self]))))) (Reps.one (show Kd.FK (Kd.slice 5 (Kd.int .u8)) _ _ t401 [.slice Ao27 t401.length co27] from (Kd.FK_slice_mk (Kd.R_reads' (Kd.R_mono (ok' := (fun k_ => (P0_8_ k_ ∨ w.heap.size ≤ k_) ∧ some k_ ≠ (.slice Ao21 y394.length co21 : Value).ownBlock ∧ k_ ≠ gb382)) (Kd.R_types (Kd.R_apart' (HO403.out) (Kd.N_typed HO396.out) (by decide)) BK382.out (by decide)) (fun k_ hk => by first | exact ⟨(.inr (hk.1.1.1.1)), ⟨hk.1.2, hk.2⟩⟩ | exact hk.1 | exact hk | exact ⟨hk.1, hk.2⟩ | exact ⟨.inr hk.1, hk.2⟩ | simp only [hk, ne_eq, not_false_eq_true, and_self]))).2.1 (Kd.R_F (Kd.R_mono (ok' := (fun k_ => (P0_8_ k_ ∨ w.heap.size ≤ k_) ∧ some k_ ≠ (.slice Ao21 y394.length co21 : Value).ownBlock ∧ k_ ≠ gb382)) (Kd.R_types (Kd.R_apart' (HO403.out) (Kd.N_typed HO396.out) (by decide)) BK382.out (by decide)) (fun k_ hk => by first | exact ⟨(.inr (hk.1.1.1.1)), ⟨hk.1.2, hk.2⟩⟩ | exact hk.1 | exact hk | exact ⟨hk.1, hk.2⟩ | exact ⟨.inr hk.1, hk.2⟩ | simp only [hk, ne_eq, not_false_eq_true, and_self]))))) (Reps.one (show Kd.FK (Kd.slice 5 (Kd.int .u8)) _ _ l0_8 [.slice A0_8 l0_8.length c0_8] from (Kd.FK_slice_mk (Kd.V_reads' (Kd.V_mono (ok' := (fun k_ => (P0_8_ k_ ∨ w.heap.size ≤ k_) ∧ some k_ ≠ (.slice Ao21 y394.length co21 : Value).ownBlock ∧ k_ ≠ gb382)) (HO0_8.out) (fun k_ hk => by first | exact ⟨hk.1.1.1.1.1.1.1, ⟨hk.1.1.2, hk.1.1.1.1.1.1.2⟩⟩ | exact hk.1 | exact hk | exact ⟨hk.1, hk.2⟩ | exact ⟨.inr hk.1, hk.2⟩ | simp only [hk, ne_eq, not_false_eq_true, and_self]))).2.1 (Kd.V_F (Kd.V_mono (ok' := (fun k_ => (P0_8_ k_ ∨ w.heap.size ≤ k_) ∧ some k_ ≠ (.slice Ao21 y394.length co21 : Value).ownBlock ∧ k_ ≠ gb382)) (HO0_8.out) (fun k_ hk => by first | exact ⟨hk.1.1.1.1.1.1.1, ⟨hk.1.1.2, hk.1.1.1.1.1.1.2⟩⟩ | exact hk.1 | exact hk | exact ⟨hk.1, hk.2⟩ | exact ⟨.inr hk.1, hk.2⟩ | simp only [hk, ne_eq, not_false_eq_true, and_self]))))) (Reps.none _ _)))))
 intro v405 w28 ho29 hb hg_ hnew_
 clear hg_ hnew_
 (first | rw [← Ny404.out] at ho29 | (simp only [Int.reduceToNat] at ho29; rw [← Ny404.out] at ho29))
 have n0_ := mk_ (Kd.V_elder' (by (with_reducible repeat (first | apply Kd.V_alloc | apply Kd.V_drewN | apply Kd.V_drew)); exact HO0_8.out) (Kd.N_base ho29) hb)
 have n1_ := mk_ (Kd.N_elder' (by (with_reducible repeat (first | apply Kd.N_alloc | apply Kd.N_drewN | apply Kd.N_drew)); exact HO396.out) (Kd.N_base ho29) hb)
 have n2_ := mk_ (Kd.N_lower ho29 (below_size (us_ HB.out)))
 have n3_ := mk_ (blk_below (u_ BK382.out) hb)
 have n4_ := mk_ (below_step (us_ HB.out) hb)
 clear HO0_8
 clear HO396
 clear BK382
 clear HB
 clear HO399
 clear HO403
 have HO0_8 := n0_
 have HO396 := n1_
 have HO406 := n2_
 have BK382 := n3_
 have HB := n4_
 clear n0_ n1_ n2_ n3_ n4_
 clear hb ho29
 obtain ⟨Ao30, co30, eo30⟩ := Kd.N_slice HO406.out
 (first | subst eo30 | (injection eo30 with f1_ f2_ f3_; have f4_ := f1_.symm; have f5_ := f3_.symm; clear f1_ f2_ f3_; subst f4_; subst f5_))
 refine hK.out _ _ ⟨(blk_cell BK382.out 0).trans rfl, (blk_cell BK382.out 1).trans rfl, (blk_cell BK382.out 2).trans rfl, (blk_cell BK382.out 3).trans rfl, (blk_cell BK382.out 4).trans rfl, (blk_cell BK382.out 5).trans rfl, (blk_cell BK382.out 6).trans rfl, (blk_cell BK382.out 7).trans rfl, (blk_cell BK382.out 8).trans rfl⟩ (fun hHeld => ?_)
 clear hK K
 refine norm_ (a' := ?_) ?_ ?_
 rotate_left
 ·show Act.put _ (some 43) _ = _
  simp only [Act.put, la_, lz_, ls_, i64_w, i32_w]
  rfl
 refine one_ (i := 7) (N := some 44) #[T_, T_, T_, T_, T_, T_, T_, T_, F_] rfl rfl (one_of HT_.out (by kernel_rfl)) (by decide) (fun K hK => ?_)
 refine goes_ Try.func106 (by kernel_rfl) rfl #[.slice Ao30 y404.length co30] (by rfl) rfl rfl (by (try simp only [lm_, lo_, ln_]); try rfl) ?_
 with_reducible refine (slices_Concat_byte_byte.calls _ _ y404 t407 _ ?side1 ?side2 A9.out).mono ?_
 (case side1 => repeat (first | exact (Kd.N_reads' HO406.out).2.2 | (with_reducible refine Kd.C_alloc ?_ _) | (with_reducible refine Kd.C_drewN ?_ _) | (with_reducible refine Kd.C_drew ?_)))
 (case side2 => exact (Kd.N_reads' HO406.out).2.1)
 rintro e w31 ⟨v408, rfl, ho0, hb⟩
 refine ⟨_, rfl, ?_⟩
 have n0_ := mk_ (Kd.V_elder' (by (with_reducible repeat (first | apply Kd.V_alloc | apply Kd.V_drewN | apply Kd.V_drew)); exact HO0_8.out) (Kd.R_base ho0) hb)
 have n1_ := mk_ (Kd.N_elder' (by (with_reducible repeat (first | apply Kd.N_alloc | apply Kd.N_drewN | apply Kd.N_drew)); exact HO396.out) (Kd.R_base ho0) hb)
 have n2_ := mk_ (Kd.N_elder' (by (with_reducible repeat (first | apply Kd.N_alloc | apply Kd.N_drewN | apply Kd.N_drew)); exact HO406.out) (Kd.R_base ho0) hb)
 have n3_ := mk_ (Kd.R_lower (Kd.R_newM (M := fun k_ => (w.heap.size ≤ k_)) ho0 (below_size (us_ HB.out)) (fun k_ h_ => h_)) (below_size (us_ HB.out)))
 have n4_ := mk_ (blk_below (u_ BK382.out) hb)
 have n5_ := mk_ (below_step (us_ HB.out) hb)
 clear HO0_8
 clear HO396
 clear HO406
 clear BK382
 clear HB
 have HO0_8 := n0_
 have HO396 := n1_
 have HO406 := n2_
 have HO409 := n3_
 have BK382 := n4_
 have HB := n5_
 clear n0_ n1_ n2_ n3_ n4_ n5_
 (try clear hb)
 (try clear hb2)
 (try clear hk)
 (try clear hi)
 (try clear ho0)
 refine hK.out _ _ ⟨(blk_cell BK382.out 0).trans rfl, (blk_cell BK382.out 1).trans rfl, (blk_cell BK382.out 2).trans rfl, (blk_cell BK382.out 3).trans rfl, (blk_cell BK382.out 4).trans rfl, (blk_cell BK382.out 5).trans rfl, (blk_cell BK382.out 6).trans rfl, (blk_cell BK382.out 7).trans rfl, (blk_cell BK382.out 8).trans rfl⟩ (fun hHeld => ?_)
 clear hK K
 refine norm_ (a' := ?_) ?_ ?_
 rotate_left
 ·show Act.put _ (some 44) _ = _
  simp only [Act.put, la_, lz_, ls_, i64_w, i32_w]
  rfl
 refine pure_ (i := 8) (N := some 2) (v := ?_) (a' := ?_) #[T_, T_, T_, T_, T_, T_, T_, T_, T_] rfl rfl (any_of HT_.out (by kernel_rfl)) (fun _ _ _ h => h) (Or.inl ⟨by rfl, ?_⟩) ?_ ?_
 rotate_left
 ·intro w'
  go_simp
  with_reducible rfl
 rotate_left
 ·simp only [Act.put, la_, lz_, ls_, i64_w, i32_w]
  rfl
 refine done_ (done_of HT_.out (by kernel_rfl)) ?_
 try go_wp2
 go_ret
 exact ⟨_, by first | rfl | (simp [errW_none, errW_some] <;> rfl) | (simp [*, errW_none, errW_some] <;> rfl), by (with_reducible repeat (first | apply Kd.R_alloc | apply Kd.R_drewN | apply Kd.R_drew)); exact Kd.R_mono HO409.out (fun _ hk => hk.1), us_ HB.out⟩

end Go.Proofs.Ytkkibccnpkbbjab.MFnNoteAbout
