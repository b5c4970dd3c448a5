/- Functions that the law FnExactSegmentBytes reaches, each with the proof that the machine's call comes to just its answer; no conditions but those that each theorem states. Printed by a program of this session over the kit's print. -/
import Derived.Test.YtfcocnhkimbpbabMFnExactSegmentBytesx0
import Derived.Test.YtfcocnhkimbpbabMFnExactSegmentBytesx6
namespace Go.Proofs.Ytfcocnhkimbpbab.MFnExactSegmentBytes
open Go.RowKit Go.Proofs.YtfcocnhkimbpbabV.PrintWords Go.Proofs.YtfcocnhkimbpbabV.PrintLast Go.Proofs.YtfcocnhkimbpbabV.PrintMore
attribute [local go_sem] max2_int min2_int max_two min_two max_three min_three max_four min_four   -- for this text's walks alone
set_option linter.unusedVariables false
set_option linter.unusedSimpArgs false

/-! ### impl_Segment_body: function 61 -/
def impl_Segment_body.l0 : Nat → List Int → List (S42) → Int → Int → Int → Int → Int → Int → Int → Bool → Bool → Bool → Bool → List (S42) → List Int → Option (List Int)
 | 0, _, _, _, _, _, _, _, _, _, _, _, _, _, _, _ => none
 | k + 1, x4, x48, x49, x50, x239000, x239001, x239002, x239003, x239004, x239005, x239006, x239007, x239008, x239009, x239010 => if x50 < x49 then (if 0 ≤ x50 then (if x50 < (x48.length : Int) then ((impl_bytesOf.f k ((rd_T42 x48 x50).f0) 2).bind fun t263 => ((impl_bytesOf.f k ((rd_T42 x48 x50).f1) 2).bind fun t266 => ((slices_Concat_byte_byte.f (([x4, t263, t266] : List (List Int)))).bind fun t272 => (impl_Segment_body.l0 k t272 x48 x49 (wrap64 (x50 + 1)) x239000 x239001 x239002 x239003 x239004 x239005 x239006 x239007 x239008 x239009 x239010)))) else (none)) else (none)) else ((slices_Concat_byte_byte.f (([x4, (([((x239010.length : Int)) % 256] : List Int)), x239010] : List (List Int)))).bind fun t281 => (some t281))
def impl_Segment_body.f (k : Nat) (a0_0 : Int) (a0_1 : Int) (a0_2 : Int) (a0_3 : Int) (a0_4 : Int) (a0_5 : Bool) (a0_6 : Bool) (a0_7 : Bool) (a0_8 : Bool) (l0_9 : List (S42)) (l0_10 : List Int) : Option (List Int) := (impl_bit.f a0_5 1).bind fun t239 => ((impl_bit.f a0_6 2).bind fun t240 => ((impl_bit.f a0_7 4).bind fun t241 => ((impl_bit.f a0_8 8).bind fun t242 => ((impl_bytesOf.f k a0_2 2).bind fun t246 => ((impl_bytesOf.f k a0_3 2).bind fun t249 => ((slices_Concat_byte_byte.f (([(([(a0_0) % 256, (a0_1) % 256] : List Int)), t246, t249, (([(a0_4) % 256, (wrap64 ((wrap64 ((wrap64 (t239 + t240)) + t241)) + t242)) % 256, ((l0_9.length : Int)) % 256] : List Int))] : List (List Int)))).bind fun t258 => (impl_Segment_body.l0 k t258 l0_9 (l0_9.length : Int) 0 a0_0 a0_1 a0_2 a0_3 a0_4 a0_5 a0_6 a0_7 a0_8 l0_9 l0_10)))))))
theorem impl_Segment_body.mono_l : ∀ k, (∀ y0 y1 y2 y3 y4 y5 y6 y7 y8 y9 y10 y11 y12 y13 y14, LeO (impl_Segment_body.l0 k y0 y1 y2 y3 y4 y5 y6 y7 y8 y9 y10 y11 y12 y13 y14) (impl_Segment_body.l0 (k + 1) y0 y1 y2 y3 y4 y5 y6 y7 y8 y9 y10 y11 y12 y13 y14))
 | 0 => fun _ _ _ _ _ _ _ _ _ _ _ _ _ _ _ r h => by simp [impl_Segment_body.l0] at h
 | k + 1 => by
  have ih0 := impl_Segment_body.mono_l k
  ·intro y0 y1 y2 y3 y4 y5 y6 y7 y8 y9 y10 y11 y12 y13 y14
   unfold impl_Segment_body.l0
   repeat' first
   | (with_reducible exact ih0 _ _ _ _ _ _ _ _ _ _ _ _ _ _ _)
   | (with_reducible exact impl_bytesOf.mono _ _ _)
   | (with_reducible exact LeO.refl _)
   | (with_reducible exact LeO.none _)
   | (with_reducible refine LeO.ite ?_ ?_)
   | (with_reducible refine LeO.bind ?_ (fun _ => ?_))
   | exact ih0 _ _ _ _ _ _ _ _ _ _ _ _ _ _ _
   | exact impl_bytesOf.mono _ _ _
   | exact LeO.none _
   | refine LeO.ite ?_ ?_
   | refine LeO.bind ?_ (fun _ => ?_)
theorem impl_Segment_body.mono : ∀ a0 a1 a2 a3 a4 a5 a6 a7 a8 a9 a10 k, LeO (impl_Segment_body.f k a0 a1 a2 a3 a4 a5 a6 a7 a8 a9 a10) (impl_Segment_body.f (k + 1) a0 a1 a2 a3 a4 a5 a6 a7 a8 a9 a10) := by
 intro a0 a1 a2 a3 a4 a5 a6 a7 a8 a9 a10 k
 have ih0 := impl_Segment_body.mono_l k
 unfold impl_Segment_body.f
 repeat' first
   | (with_reducible exact ih0 _ _ _ _ _ _ _ _ _ _ _ _ _ _ _)
   | (with_reducible exact impl_bytesOf.mono _ _ _)
   | (with_reducible exact LeO.refl _)
   | (with_reducible exact LeO.none _)
   | (with_reducible refine LeO.ite ?_ ?_)
   | (with_reducible refine LeO.bind ?_ (fun _ => ?_))
   | exact ih0 _ _ _ _ _ _ _ _ _ _ _ _ _ _ _
   | exact impl_bytesOf.mono _ _ _
   | exact LeO.none _
   | refine LeO.ite ?_ ?_
   | refine LeO.bind ?_ (fun _ => ?_)
def impl_Segment_body.T1 : Bool × List (List Nat × List Nat) := (true, [([], []), ([0], [0]), ([1], [1]), ([], []), ([3], [3]), ([4, 2], [4]), ([2, 5], [2, 5]), ([], []), ([7], [7]), ([8, 5], [8]), ([6, 9], [6, 9]), ([], []), ([11], [11]), ([12, 9], [12]), ([10, 13], [10, 13]), ([14, 13, 0, 1, 2, 3, 4, 5, 6, 7, 8, 9, 10, 11, 12, 13, 14], [14])])
def impl_Segment_body.B1 : List Nat := [0, 1, 3, 0, 8, 31, 63, 0, 128, 447, 1023, 0, 2048, 7103, 16383, 32767]
theorem impl_Segment_body.tab1 : rtab .any (opsOf Try.f61 1) = impl_Segment_body.T1 := by kernel_rfl
theorem impl_Segment_body.bits1 : waitsOk impl_Segment_body.T1.2 impl_Segment_body.B1 = true := by kernel_rfl
def impl_Segment_body.T2 : Bool × List (List Nat × List Nat) := (true, [([], []), ([0], [0]), ([1], [1]), ([], []), ([3], [3]), ([4], [4]), ([2, 5], [2, 5]), ([], []), ([7], [7]), ([8], [8]), ([], []), ([10], [10]), ([11, 9], [11]), ([], []), ([13], [13]), ([14], [14]), ([], []), ([16], [16]), ([], []), ([18], [18]), ([19], [19]), ([20], [20]), ([15, 17, 21], [15, 17, 21]), ([6, 9, 12, 22], [6, 9, 12, 22]), ([23, 12], [23]), ([24, 24, 0, 1, 2, 3, 4, 5, 6, 7, 8, 9, 10, 11, 12, 13, 14, 15, 16, 17, 18, 19, 20, 21, 22, 23, 24], [24])])
def impl_Segment_body.B2 : List Nat := [0, 1, 3, 0, 8, 24, 63, 0, 128, 384, 0, 1024, 3968, 0, 8192, 24576, 0, 65536, 0, 262144, 786432, 1835008, 4186112, 8388607, 16777215, 33554431]
theorem impl_Segment_body.tab2 : rtab .any (opsOf Try.f61 2) = impl_Segment_body.T2 := by kernel_rfl
theorem impl_Segment_body.bits2 : waitsOk impl_Segment_body.T2.2 impl_Segment_body.B2 = true := by kernel_rfl
def impl_Segment_body.T6 : Bool × List (List Nat × List Nat) := (true, [([], []), ([], []), ([1], [1]), ([2], [2]), ([], []), ([4], [4]), ([5, 3], [5]), ([0, 3, 6], [0, 3, 6]), ([7, 6], [7]), ([8, 8, 0, 1, 2, 3, 4, 5, 6, 7, 8], [0, 8])])
def impl_Segment_body.B6 : List Nat := [0, 0, 2, 6, 0, 16, 62, 127, 255, 511]
theorem impl_Segment_body.tab6 : rtab .any (opsOf Try.f61 6) = impl_Segment_body.T6 := by kernel_rfl
theorem impl_Segment_body.bits6 : waitsOk impl_Segment_body.T6.2 impl_Segment_body.B6 = true := by kernel_rfl
set_option maxHeartbeats 8000000 in
set_option maxRecDepth 100000 in
theorem impl_Segment_body.calls (k : Nat) (a0_0 : Int) (a0_1 : Int) (a0_2 : Int) (a0_3 : Int) (a0_4 : Int) (a0_5 : Bool) (a0_6 : Bool) (a0_7 : Bool) (a0_8 : Bool) (A0_9 : Option Addr) (c0_9 : Nat) (l0_9 : List (S42)) (P0_10_ : Nat → Prop) (A0_10 : Option Addr) (c0_10 : Nat) (l0_10 : List Int) (r : List Int) (w : World) (hr0_9 : Kd.C k42 w A0_9 l0_9.length l0_9) (hc0_9 : l0_9.length ≤ c0_9) (hs0_10 : Kd.V (Kd.int .u8) 5 w w.heap.size (fun k_ => P0_10_ k_) (.slice A0_10 l0_10.length c0_10) l0_10) (h : impl_Segment_body.f k a0_0 a0_1 a0_2 a0_3 a0_4 a0_5 a0_6 a0_7 a0_8 l0_9 l0_10 = some r) :
  Calls Try.prog 61 #[.agg #[.int .i64 a0_0, .int .i64 a0_1, .int .i64 a0_2, .int .i64 a0_3, .int .i64 a0_4, .bool a0_5, .bool a0_6, .bool a0_7, .bool a0_8, .slice A0_9 l0_9.length c0_9, .slice A0_10 l0_10.length c0_10]] w fun e w' => ∃ v0_ : Value, e = .returned (v0_) ∧ Kd.R (Kd.int .u8) 5 w' w.heap.size (fun k_ => (w.heap.size ≤ k_)) v0_ r ∧ Below w.heap.size w w' := by
 have hu31 := Try.underlying31
 have hu42 := Try.underlying42
 have HR0_9 := mk_ hr0_9
 have HC0_9 := mk_ hc0_9
 clear hr0_9 hc0_9
 have HO0_10 := mk_ (show Kd.V (Kd.int .u8) 5 w w.heap.size (fun k_ => (P0_10_ k_ ∨ w.heap.size ≤ k_)) (.slice A0_10 l0_10.length c0_10) l0_10 from Kd.V_mono hs0_10 (fun k_ hk => .inl hk))
 have HB := mk_ (Below.refl w.heap.size w)
 have H : ((impl_bit.f a0_5 1).bind fun t239 => ((impl_bit.f a0_6 2).bind fun t240 => ((impl_bit.f a0_7 4).bind fun t241 => ((impl_bit.f a0_8 8).bind fun t242 => ((impl_bytesOf.f k a0_2 2).bind fun t246 => ((impl_bytesOf.f k a0_3 2).bind fun t249 => ((slices_Concat_byte_byte.f (([(([(a0_0) % 256, (a0_1) % 256] : List Int)), t246, t249, (([(a0_4) % 256, (wrap64 ((wrap64 ((wrap64 (t239 + t240)) + t241)) + t242)) % 256, ((l0_9.length : Int)) % 256] : List Int))] : List (List Int)))).bind fun t258 => (impl_Segment_body.l0 k t258 l0_9 (l0_9.length : Int) 0 a0_0 a0_1 a0_2 a0_3 a0_4 a0_5 a0_6 a0_7 a0_8 l0_9 l0_10)))))))) = some r := h
 clear h
 replace H := Option.bind_eq_some_iff.mp H
 obtain ⟨t239, A20, H⟩ := H
 replace H : ((impl_bit.f a0_6 2).bind fun t240 => ((impl_bit.f a0_7 4).bind fun t241 => ((impl_bit.f a0_8 8).bind fun t242 => ((impl_bytesOf.f k a0_2 2).bind fun t246 => ((impl_bytesOf.f k a0_3 2).bind fun t249 => ((slices_Concat_byte_byte.f (([(([(a0_0) % 256, (a0_1) % 256] : List Int)), t246, t249, (([(a0_4) % 256, (wrap64 ((wrap64 ((wrap64 (t239 + t240)) + t241)) + t242)) % 256, ((l0_9.length : Int)) % 256] : List Int))] : List (List Int)))).bind fun t258 => (impl_Segment_body.l0 k t258 l0_9 (l0_9.length : Int) 0 a0_0 a0_1 a0_2 a0_3 a0_4 a0_5 a0_6 a0_7 a0_8 l0_9 l0_10))))))) = some r := H
 have A2 := mk_ A20
 clear A20
 replace H := Option.bind_eq_some_iff.mp H
 obtain ⟨t240, A30, H⟩ := H
 replace H : ((impl_bit.f a0_7 4).bind fun t241 => ((impl_bit.f a0_8 8).bind fun t242 => ((impl_bytesOf.f k a0_2 2).bind fun t246 => ((impl_bytesOf.f k a0_3 2).bind fun t249 => ((slices_Concat_byte_byte.f (([(([(a0_0) % 256, (a0_1) % 256] : List Int)), t246, t249, (([(a0_4) % 256, (wrap64 ((wrap64 ((wrap64 (t239 + t240)) + t241)) + t242)) % 256, ((l0_9.length : Int)) % 256] : List Int))] : List (List Int)))).bind fun t258 => (impl_Segment_body.l0 k t258 l0_9 (l0_9.length : Int) 0 a0_0 a0_1 a0_2 a0_3 a0_4 a0_5 a0_6 a0_7 a0_8 l0_9 l0_10)))))) = some r := H
 have A3 := mk_ A30
 clear A30
 replace H := Option.bind_eq_some_iff.mp H
 obtain ⟨t241, A40, H⟩ := H
 replace H : ((impl_bit.f a0_8 8).bind fun t242 => ((impl_bytesOf.f k a0_2 2).bind fun t246 => ((impl_bytesOf.f k a0_3 2).bind fun t249 => ((slices_Concat_byte_byte.f (([(([(a0_0) % 256, (a0_1) % 256] : List Int)), t246, t249, (([(a0_4) % 256, (wrap64 ((wrap64 ((wrap64 (t239 + t240)) + t241)) + t242)) % 256, ((l0_9.length : Int)) % 256] : List Int))] : List (List Int)))).bind fun t258 => (impl_Segment_body.l0 k t258 l0_9 (l0_9.length : Int) 0 a0_0 a0_1 a0_2 a0_3 a0_4 a0_5 a0_6 a0_7 a0_8 l0_9 l0_10))))) = some r := H
 have A4 := mk_ A40
 clear A40
 replace H := Option.bind_eq_some_iff.mp H
 obtain ⟨t242, A50, H⟩ := H
 replace H : ((impl_bytesOf.f k a0_2 2).bind fun t246 => ((impl_bytesOf.f k a0_3 2).bind fun t249 => ((slices_Concat_byte_byte.f (([(([(a0_0) % 256, (a0_1) % 256] : List Int)), t246, t249, (([(a0_4) % 256, (wrap64 ((wrap64 ((wrap64 (t239 + t240)) + t241)) + t242)) % 256, ((l0_9.length : Int)) % 256] : List Int))] : List (List Int)))).bind fun t258 => (impl_Segment_body.l0 k t258 l0_9 (l0_9.length : Int) 0 a0_0 a0_1 a0_2 a0_3 a0_4 a0_5 a0_6 a0_7 a0_8 l0_9 l0_10)))) = some r := H
 have A5 := mk_ A50
 clear A50
 obtain ⟨y243, hy243⟩ : ∃ y_ : List Int, y_ = (([(a0_0) % 256, (a0_1) % 256] : List Int)) := ⟨_, rfl⟩
 replace H : ((impl_bytesOf.f k a0_2 2).bind fun t246 => ((impl_bytesOf.f k a0_3 2).bind fun t249 => ((slices_Concat_byte_byte.f (([y243, t246, t249, (([(a0_4) % 256, (wrap64 ((wrap64 ((wrap64 (t239 + t240)) + t241)) + t242)) % 256, ((l0_9.length : Int)) % 256] : List Int))] : List (List Int)))).bind fun t258 => (impl_Segment_body.l0 k t258 l0_9 (l0_9.length : Int) 0 a0_0 a0_1 a0_2 a0_3 a0_4 a0_5 a0_6 a0_7 a0_8 l0_9 l0_10)))) = some r := by first | (rw [hy243]; with_reducible exact H) | (have H2_ := (Option.bind_some _ _).symm.trans H; rw [hy243]; with_reducible exact H2_) | (have H2_ := (Option.bind_some _ _).symm.trans H; with_reducible exact H2_) | with_reducible exact H | (rw [hy243]; exact H) | exact H
 have Ny243 := mk_ hy243
 clear hy243
 replace H := Option.bind_eq_some_iff.mp H
 obtain ⟨t246, A60, H⟩ := H
 replace H : ((impl_bytesOf.f k a0_3 2).bind fun t249 => ((slices_Concat_byte_byte.f (([y243, t246, t249, (([(a0_4) % 256, (wrap64 ((wrap64 ((wrap64 (t239 + t240)) + t241)) + t242)) % 256, ((l0_9.length : Int)) % 256] : List Int))] : List (List Int)))).bind fun t258 => (impl_Segment_body.l0 k t258 l0_9 (l0_9.length : Int) 0 a0_0 a0_1 a0_2 a0_3 a0_4 a0_5 a0_6 a0_7 a0_8 l0_9 l0_10))) = some r := H
 have A6 := mk_ A60
 clear A60
 replace H := Option.bind_eq_some_iff.mp H
 obtain ⟨t249, A70, H⟩ := H
 replace H : ((slices_Concat_byte_byte.f (([y243, t246, t249, (([(a0_4) % 256, (wrap64 ((wrap64 ((wrap64 (t239 + t240)) + t241)) + t242)) % 256, ((l0_9.length : Int)) % 256] : List Int))] : List (List Int)))).bind fun t258 => (impl_Segment_body.l0 k t258 l0_9 (l0_9.length : Int) 0 a0_0 a0_1 a0_2 a0_3 a0_4 a0_5 a0_6 a0_7 a0_8 l0_9 l0_10)) = some r := H
 have A7 := mk_ A70
 clear A70
 obtain ⟨y252, hy252⟩ : ∃ y_ : List Int, y_ = (([(a0_4) % 256, (wrap64 ((wrap64 ((wrap64 (t239 + t240)) + t241)) + t242)) % 256, ((l0_9.length : Int)) % 256] : List Int)) := ⟨_, rfl⟩
 replace H : ((slices_Concat_byte_byte.f (([y243, t246, t249, y252] : List (List Int)))).bind fun t258 => (impl_Segment_body.l0 k t258 l0_9 (l0_9.length : Int) 0 a0_0 a0_1 a0_2 a0_3 a0_4 a0_5 a0_6 a0_7 a0_8 l0_9 l0_10)) = some r := by first | (rw [hy252]; with_reducible exact H) | (have H2_ := (Option.bind_some _ _).symm.trans H; rw [hy252]; with_reducible exact H2_) | (have H2_ := (Option.bind_some _ _).symm.trans H; with_reducible exact H2_) | with_reducible exact H | (rw [hy252]; exact H) | exact H
 have Ny252 := mk_ hy252
 clear hy252
 obtain ⟨y255, hy255⟩ : ∃ y_ : List (List Int), y_ = (([y243, t246, t249, y252] : List (List Int))) := ⟨_, rfl⟩
 replace H : ((slices_Concat_byte_byte.f y255).bind fun t258 => (impl_Segment_body.l0 k t258 l0_9 (l0_9.length : Int) 0 a0_0 a0_1 a0_2 a0_3 a0_4 a0_5 a0_6 a0_7 a0_8 l0_9 l0_10)) = some r := by first | (rw [hy255]; with_reducible exact H) | (have H2_ := (Option.bind_some _ _).symm.trans H; rw [hy255]; with_reducible exact H2_) | (have H2_ := (Option.bind_some _ _).symm.trans H; with_reducible exact H2_) | with_reducible exact H | (rw [hy255]; exact H) | exact H
 have Ny255 := mk_ hy255
 clear hy255
 replace H := Option.bind_eq_some_iff.mp H
 obtain ⟨t258, A80, H⟩ := H
 replace H : (impl_Segment_body.l0 k t258 l0_9 (l0_9.length : Int) 0 a0_0 a0_1 a0_2 a0_3 a0_4 a0_5 a0_6 a0_7 a0_8 l0_9 l0_10) = some r := H
 have A8 := mk_ A80
 clear A80
 have H' := mk_ H
 clear H
 go_enter Try.func61, Try.ntmps61
 try go_wp2_with (first | ((with_reducible refine gate_dst (N := 1) rfl ?_); refine box_event ?hg (N := 1) ?hd (cs := #[.int .i64 a0_0, .int .i64 a0_1, .int .i64 a0_2, .int .i64 a0_3, .int .i64 a0_4, .bool a0_5, .bool a0_6, .bool a0_7, .bool a0_8, .slice A0_9 l0_9.length c0_9, .slice A0_10 l0_10.length c0_10]) (t := 31) ?hr ?_; (case hd => rfl); (case hg => rfl); (case hr => first | (go_simp; done) | (go_simp; rfl)); intro gb238 hg w9 hbox hb; have n0_ := mk_ (Kd.V_below (Kd.V_elderB (by (with_reducible repeat (first | apply Kd.V_alloc | apply Kd.V_drewN | apply Kd.V_drew)); exact HO0_10.out) gb238 (Nat.le_of_eq hg.symm)) hb); have n1_ := mk_ (below_step (ub_ HB.out) hb); have n2_ := mk_ (hbox); have n3_ := mk_ ((by rw [hg]; exact (below_size (ub_ HB.out)) : w.heap.size ≤ gb238)); have n4_ := mk_ ((by rw [hg]; exact (below_size (ub_ HB.out)) : w.heap.size ≤ gb238)); clear HO0_10; clear HB; have HO0_10 := n0_; have HB := n1_; have BK238 := n2_; have GW238 := n3_; have GE238 := ge_ n4_.out; clear n0_ n1_ n2_ n3_ n4_; clear hb hbox hg))
 have n0_ := mk_ (Kd.V_drew HO0_10.out)
 have n1_ := mk_ (blk_drew BK238.out)
 have n2_ := mk_ (below_drew1 HB.out)
 clear HO0_10
 clear BK238
 clear HB
 have HO0_10 := n0_
 have BK238 := n1_
 have HB := n2_
 clear n0_ n1_ n2_
 refine start_ (n := 16) (S := fun w' => w'.cell? ⟨gb238, 0, none⟩ = some (.int .i64 a0_0) ∧ w'.cell? ⟨gb238, 1, none⟩ = some (.int .i64 a0_1) ∧ w'.cell? ⟨gb238, 2, none⟩ = some (.int .i64 a0_2) ∧ w'.cell? ⟨gb238, 3, none⟩ = some (.int .i64 a0_3) ∧ w'.cell? ⟨gb238, 4, none⟩ = some (.int .i64 a0_4) ∧ w'.cell? ⟨gb238, 5, none⟩ = some (.bool a0_5) ∧ w'.cell? ⟨gb238, 6, none⟩ = some (.bool a0_6) ∧ w'.cell? ⟨gb238, 7, none⟩ = some (.bool a0_7) ∧ w'.cell? ⟨gb238, 8, none⟩ = some (.bool a0_8) ∧ w'.cell? ⟨gb238, 9, none⟩ = some (.slice A0_9 l0_9.length c0_9) ∧ w'.cell? ⟨gb238, 10, none⟩ = some (.slice A0_10 l0_10.length c0_10)) (ds := []) #[F_, F_, F_, F_, F_, F_, F_, F_, F_, F_, F_, F_, F_, F_, F_, F_] (by kernel_rfl) rfl rfl ⟨(blk_cell BK238.out 0).trans rfl, (blk_cell BK238.out 1).trans rfl, (blk_cell BK238.out 2).trans rfl, (blk_cell BK238.out 3).trans rfl, (blk_cell BK238.out 4).trans rfl, (blk_cell BK238.out 5).trans rfl, (blk_cell BK238.out 6).trans rfl, (blk_cell BK238.out 7).trans rfl, (blk_cell BK238.out 8).trans rfl, (blk_cell BK238.out 9).trans rfl, (blk_cell BK238.out 10).trans rfl⟩ (fun hHeld => ?_); refine with_tabW impl_Segment_body.tab1 impl_Segment_body.bits1 (fun HT_ HW_ => ?_)
 generalize w9.drew = w10 at HO0_10 BK238 HB hHeld ⊢
 refine pure_ (i := 0) (N := some 7) (v := ?_) (a' := ?_) #[T_, F_, F_, F_, F_, F_, F_, F_, F_, F_, F_, F_, F_, F_, F_, F_] rfl rfl (any_of HT_.out (by kernel_rfl)) (fun _ _ _ h => h) (Or.inl ⟨by rfl, ?_⟩) ?_ ?_
 rotate_left
 ·intro w'
  go_simp
  with_reducible rfl
 rotate_left
 ·simp only [Act.put, la_, lz_, ls_, i64_w, i32_w]
  rfl
 refine pure_ (i := 3) (N := some 10) (v := ?_) (a' := ?_) #[T_, F_, F_, T_, F_, F_, F_, F_, F_, F_, F_, F_, F_, F_, F_, F_] rfl rfl (any_of HT_.out (by kernel_rfl)) (fun _ _ _ h => h) (Or.inl ⟨by rfl, ?_⟩) ?_ ?_
 rotate_left
 ·intro w'
  go_simp
  with_reducible rfl
 rotate_left
 ·simp only [Act.put, la_, lz_, ls_, i64_w, i32_w]
  rfl
 refine pure_ (i := 7) (N := some 14) (v := ?_) (a' := ?_) #[T_, F_, F_, T_, F_, F_, F_, T_, F_, F_, F_, F_, F_, F_, F_, F_] rfl rfl (any_of HT_.out (by kernel_rfl)) (fun _ _ _ h => h) (Or.inl ⟨by rfl, ?_⟩) ?_ ?_
 rotate_left
 ·intro w'
  go_simp
  with_reducible rfl
 rotate_left
 ·simp only [Act.put, la_, lz_, ls_, i64_w, i32_w]
  rfl
 refine pure_ (i := 11) (N := some 18) (v := ?_) (a' := ?_) #[T_, F_, F_, T_, F_, F_, F_, T_, F_, F_, F_, T_, F_, F_, F_, F_] rfl rfl (any_of HT_.out (by kernel_rfl)) (fun _ _ _ h => h) (Or.inl ⟨by rfl, ?_⟩) ?_ ?_
 rotate_left
 ·intro w'
  go_simp
  with_reducible rfl
 rotate_left
 ·simp only [Act.put, la_, lz_, ls_, i64_w, i32_w]
  rfl
 refine take_ (i := 1) (N := some 8) (v := ?_) (a' := ?_) #[T_, T_, F_, T_, F_, F_, F_, T_, F_, F_, F_, T_, F_, F_, F_, F_] rfl rfl (take_ofW HT_.out HW_.out (by kernel_rfl)) (fun _ _ _ h => h) (Or.inl ⟨by rfl, ?_⟩) hHeld ?_ ?_
 rotate_left
 ·rintro w' ⟨s0, s1, s2, s3, s4, s5, s6, s7, s8, s9, s10⟩
  go_simp
  with_reducible rfl
 rotate_left
 ·simp only [Act.put, la_, lz_, ls_, i64_w, i32_w]
  rfl
 refine take_ (i := 4) (N := some 11) (v := ?_) (a' := ?_) #[T_, T_, F_, T_, T_, F_, F_, T_, F_, F_, F_, T_, F_, F_, F_, F_] rfl rfl (take_ofW HT_.out HW_.out (by kernel_rfl)) (fun _ _ _ h => h) (Or.inl ⟨by rfl, ?_⟩) hHeld ?_ ?_
 rotate_left
 ·rintro w' ⟨s0, s1, s2, s3, s4, s5, s6, s7, s8, s9, s10⟩
  go_simp
  with_reducible rfl
 rotate_left
 ·simp only [Act.put, la_, lz_, ls_, i64_w, i32_w]
  rfl
 refine take_ (i := 8) (N := some 15) (v := ?_) (a' := ?_) #[T_, T_, F_, T_, T_, F_, F_, T_, T_, F_, F_, T_, F_, F_, F_, F_] rfl rfl (take_ofW HT_.out HW_.out (by kernel_rfl)) (fun _ _ _ h => h) (Or.inl ⟨by rfl, ?_⟩) hHeld ?_ ?_
 rotate_left
 ·rintro w' ⟨s0, s1, s2, s3, s4, s5, s6, s7, s8, s9, s10⟩
  go_simp
  with_reducible rfl
 rotate_left
 ·simp only [Act.put, la_, lz_, ls_, i64_w, i32_w]
  rfl
 refine take_ (i := 12) (N := some 19) (v := ?_) (a' := ?_) #[T_, T_, F_, T_, T_, F_, F_, T_, T_, F_, F_, T_, T_, F_, F_, F_] rfl rfl (take_ofW HT_.out HW_.out (by kernel_rfl)) (fun _ _ _ h => h) (Or.inl ⟨by rfl, ?_⟩) hHeld ?_ ?_
 rotate_left
 ·rintro w' ⟨s0, s1, s2, s3, s4, s5, s6, s7, s8, s9, s10⟩
  go_simp
  with_reducible rfl
 rotate_left
 ·simp only [Act.put, la_, lz_, ls_, i64_w, i32_w]
  rfl
 refine one_ (i := 2) (N := some 9) #[T_, T_, T_, T_, T_, F_, F_, T_, T_, F_, F_, T_, T_, F_, F_, F_] rfl rfl (one_of HT_.out (by kernel_rfl)) (by decide) (fun K hK => ?_)
 refine goes_ Try.func45 (by kernel_rfl) rfl #[.bool a0_5, .int .i64 1] (by rfl) rfl rfl (by (try simp only [lm_, lo_, ln_]); first | done | rfl | (simp only [List.length_drop, List.length_take]; rfl)) ?_
 with_reducible refine (impl_bit.calls a0_5 1 t239 _ A2.out).mono ?_
 rintro e w' ⟨rfl, ⟨nd, rfl⟩⟩
 refine ⟨_, rfl, ?_⟩
 refine hK.out _ _ ⟨(blk_cell BK238.out 0).trans rfl, (blk_cell BK238.out 1).trans rfl, (blk_cell BK238.out 2).trans rfl, (blk_cell BK238.out 3).trans rfl, (blk_cell BK238.out 4).trans rfl, (blk_cell BK238.out 5).trans rfl, (blk_cell BK238.out 6).trans rfl, (blk_cell BK238.out 7).trans rfl, (blk_cell BK238.out 8).trans rfl, (blk_cell BK238.out 9).trans rfl, (blk_cell BK238.out 10).trans rfl⟩ (fun hHeld => ?_)
 clear hK K
 refine norm_ (a' := ?_) ?_ ?_
 rotate_left
 ·show Act.put _ (some 9) _ = _
  simp only [Act.put, la_, lz_, ls_, i64_w, i32_w]
  rfl
 refine one_ (i := 5) (N := some 12) #[T_, T_, T_, T_, T_, T_, F_, T_, T_, F_, F_, T_, T_, F_, F_, F_] rfl rfl (one_of HT_.out (by kernel_rfl)) (by decide) (fun K hK => ?_)
 refine goes_ Try.func45 (by kernel_rfl) rfl #[.bool a0_6, .int .i64 2] (by rfl) rfl rfl (by (try simp only [lm_, lo_, ln_]); first | done | rfl | (simp only [List.length_drop, List.length_take]; rfl)) ?_
 with_reducible refine (impl_bit.calls a0_6 2 t240 _ A3.out).mono ?_
 rintro e w' ⟨rfl, ⟨nd, rfl⟩⟩
 refine ⟨_, rfl, ?_⟩
 refine hK.out _ _ ⟨(blk_cell BK238.out 0).trans rfl, (blk_cell BK238.out 1).trans rfl, (blk_cell BK238.out 2).trans rfl, (blk_cell BK238.out 3).trans rfl, (blk_cell BK238.out 4).trans rfl, (blk_cell BK238.out 5).trans rfl, (blk_cell BK238.out 6).trans rfl, (blk_cell BK238.out 7).trans rfl, (blk_cell BK238.out 8).trans rfl, (blk_cell BK238.out 9).trans rfl, (blk_cell BK238.out 10).trans rfl⟩ (fun hHeld => ?_)
 clear hK K
 refine norm_ (a' := ?_) ?_ ?_
 rotate_left
 ·show Act.put _ (some 12) _ = _
  simp only [Act.put, la_, lz_, ls_, i64_w, i32_w]
  rfl
 refine pure_ (i := 6) (N := some 13) (v := ?_) (a' := ?_) #[T_, T_, T_, T_, T_, T_, T_, T_, T_, F_, F_, T_, T_, F_, F_, F_] rfl rfl (any_of HT_.out (by kernel_rfl)) (fun _ _ _ h => h) (Or.inl ⟨by rfl, ?_⟩) ?_ ?_
 rotate_left
 ·intro w'
  go_simp
  with_reducible rfl
 rotate_left
 ·simp only [Act.put, la_, lz_, ls_, i64_w, i32_w]
  rfl
 refine one_ (i := 9) (N := some 16) #[T_, T_, T_, T_, T_, T_, T_, T_, T_, T_, F_, T_, T_, F_, F_, F_] rfl rfl (one_of HT_.out (by kernel_rfl)) (by decide) (fun K hK => ?_)
 refine goes_ Try.func45 (by kernel_rfl) rfl #[.bool a0_7, .int .i64 4] (by rfl) rfl rfl (by (try simp only [lm_, lo_, ln_]); first | done | rfl | (simp only [List.length_drop, List.length_take]; rfl)) ?_
 with_reducible refine (impl_bit.calls a0_7 4 t241 _ A4.out).mono ?_
 rintro e w' ⟨rfl, ⟨nd, rfl⟩⟩
 refine ⟨_, rfl, ?_⟩
 refine hK.out _ _ ⟨(blk_cell BK238.out 0).trans rfl, (blk_cell BK238.out 1).trans rfl, (blk_cell BK238.out 2).trans rfl, (blk_cell BK238.out 3).trans rfl, (blk_cell BK238.out 4).trans rfl, (blk_cell BK238.out 5).trans rfl, (blk_cell BK238.out 6).trans rfl, (blk_cell BK238.out 7).trans rfl, (blk_cell BK238.out 8).trans rfl, (blk_cell BK238.out 9).trans rfl, (blk_cell BK238.out 10).trans rfl⟩ (fun hHeld => ?_)
 clear hK K
 refine norm_ (a' := ?_) ?_ ?_
 rotate_left
 ·show Act.put _ (some 16) _ = _
  simp only [Act.put, la_, lz_, ls_, i64_w, i32_w]
  rfl
 refine pure_ (i := 10) (N := some 17) (v := ?_) (a' := ?_) #[T_, T_, T_, T_, T_, T_, T_, T_, T_, T_, T_, T_, T_, F_, F_, F_] rfl rfl (any_of HT_.out (by kernel_rfl)) (fun _ _ _ h => h) (Or.inl ⟨by rfl, ?_⟩) ?_ ?_
 rotate_left
 ·intro w'
  go_simp
  with_reducible rfl
 rotate_left
 ·simp only [Act.put, la_, lz_, ls_, i64_w, i32_w]
  rfl
 refine one_ (i := 13) (N := some 20) #[T_, T_, T_, T_, T_, T_, T_, T_, T_, T_, T_, T_, T_, T_, F_, F_] rfl rfl (one_of HT_.out (by kernel_rfl)) (by decide) (fun K hK => ?_)
 refine goes_ Try.func45 (by kernel_rfl) rfl #[.bool a0_8, .int .i64 8] (by rfl) rfl rfl (by (try simp only [lm_, lo_, ln_]); first | done | rfl | (simp only [List.length_drop, List.length_take]; rfl)) ?_
 with_reducible refine (impl_bit.calls a0_8 8 t242 _ A5.out).mono ?_
 rintro e w' ⟨rfl, ⟨nd, rfl⟩⟩
 refine ⟨_, rfl, ?_⟩
 refine hK.out _ _ ⟨(blk_cell BK238.out 0).trans rfl, (blk_cell BK238.out 1).trans rfl, (blk_cell BK238.out 2).trans rfl, (blk_cell BK238.out 3).trans rfl, (blk_cell BK238.out 4).trans rfl, (blk_cell BK238.out 5).trans rfl, (blk_cell BK238.out 6).trans rfl, (blk_cell BK238.out 7).trans rfl, (blk_cell BK238.out 8).trans rfl, (blk_cell BK238.out 9).trans rfl, (blk_cell BK238.out 10).trans rfl⟩ (fun hHeld => ?_)
 clear hK K
 refine norm_ (a' := ?_) ?_ ?_
 rotate_left
 ·show Act.put _ (some 20) _ = _
  simp only [Act.put, la_, lz_, ls_, i64_w, i32_w]
  rfl
 refine pure_ (i := 14) (N := some 21) (v := ?_) (a' := ?_) #[T_, T_, T_, T_, T_, T_, T_, T_, T_, T_, T_, T_, T_, T_, T_, F_] rfl rfl (any_of HT_.out (by kernel_rfl)) (fun _ _ _ h => h) (Or.inl ⟨by rfl, ?_⟩) ?_ ?_
 rotate_left
 ·intro w'
  go_simp
  with_reducible rfl
 rotate_left
 ·simp only [Act.put, la_, lz_, ls_, i64_w, i32_w]
  rfl
 refine pure_ (i := 15) (N := some 3) (v := ?_) (a' := ?_) #[T_, T_, T_, T_, T_, T_, T_, T_, T_, T_, T_, T_, T_, T_, T_, T_] rfl rfl (any_of HT_.out (by kernel_rfl)) (fun _ _ _ h => h) (Or.inl ⟨by rfl, ?_⟩) ?_ ?_
 rotate_left
 ·intro w'
  go_simp
  with_reducible rfl
 rotate_left
 ·simp only [Act.put, la_, lz_, ls_, i64_w, i32_w]
  rfl
 refine done_ (done_of HT_.out (by kernel_rfl)) ?_
 try go_wp2
 (try simp only [World.drewN_drewN]); (try (rw [drewN_self w10]; generalize hq_ : World.drewN w10 _ = w10; have n0_ : Aside0 (Kd.V (Kd.int .u8) 5 w10 w.heap.size (fun k_ => (P0_10_ k_ ∨ w.heap.size ≤ k_) ∧ k_ ≠ gb238) (.slice A0_10 l0_10.length c0_10) l0_10) := ⟨by rw [← hq_]; exact (by (with_reducible repeat (first | apply Kd.V_alloc | apply Kd.V_drewN | apply Kd.V_drew)); exact HO0_10.out)⟩; have n1_ : Aside0 (w10.heap[gb238]? = some (.cells #[.int .i64 a0_0, .int .i64 a0_1, .int .i64 a0_2, .int .i64 a0_3, .int .i64 a0_4, .bool a0_5, .bool a0_6, .bool a0_7, .bool a0_8, .slice A0_9 l0_9.length c0_9, .slice A0_10 l0_10.length c0_10] 31 (0, 0))) := ⟨by rw [← hq_]; exact (u_ BK238.out)⟩; have n2_ : Aside0 (Below w.heap.size w w10) := ⟨by rw [← hq_]; exact (us_ HB.out)⟩; clear HO0_10 BK238 HB hq_; have HO0_10 := n0_; have BK238 := n1_; have HB := n2_; clear n0_ n1_ n2_))
 have n0_ := mk_ (Kd.V_drew HO0_10.out)
 have n1_ := mk_ (blk_drew BK238.out)
 have n2_ := mk_ (below_drew1 HB.out)
 clear HO0_10
 clear BK238
 clear HB
 have HO0_10 := n0_
 have BK238 := n1_
 have HB := n2_
 clear n0_ n1_ n2_
 refine start_ (n := 26) (S := fun w' => w'.cell? ⟨gb238, 0, none⟩ = some (.int .i64 a0_0) ∧ w'.cell? ⟨gb238, 1, none⟩ = some (.int .i64 a0_1) ∧ w'.cell? ⟨gb238, 2, none⟩ = some (.int .i64 a0_2) ∧ w'.cell? ⟨gb238, 3, none⟩ = some (.int .i64 a0_3) ∧ w'.cell? ⟨gb238, 4, none⟩ = some (.int .i64 a0_4) ∧ w'.cell? ⟨gb238, 5, none⟩ = some (.bool a0_5) ∧ w'.cell? ⟨gb238, 6, none⟩ = some (.bool a0_6) ∧ w'.cell? ⟨gb238, 7, none⟩ = some (.bool a0_7) ∧ w'.cell? ⟨gb238, 8, none⟩ = some (.bool a0_8) ∧ w'.cell? ⟨gb238, 9, none⟩ = some (.slice A0_9 l0_9.length c0_9) ∧ w'.cell? ⟨gb238, 10, none⟩ = some (.slice A0_10 l0_10.length c0_10)) (ds := []) #[F_, F_, F_, F_, F_, F_, F_, F_, F_, F_, F_, F_, F_, F_, F_, F_, F_, F_, F_, F_, F_, F_, F_, F_, F_, F_] (by kernel_rfl) rfl rfl ⟨(blk_cell BK238.out 0).trans rfl, (blk_cell BK238.out 1).trans rfl, (blk_cell BK238.out 2).trans rfl, (blk_cell BK238.out 3).trans rfl, (blk_cell BK238.out 4).trans rfl, (blk_cell BK238.out 5).trans rfl, (blk_cell BK238.out 6).trans rfl, (blk_cell BK238.out 7).trans rfl, (blk_cell BK238.out 8).trans rfl, (blk_cell BK238.out 9).trans rfl, (blk_cell BK238.out 10).trans rfl⟩ (fun hHeld => ?_); refine with_tabW impl_Segment_body.tab2 impl_Segment_body.bits2 (fun HT_ HW_ => ?_)
 generalize w10.drew = w11 at HO0_10 BK238 HB hHeld ⊢
 refine pure_ (i := 0) (N := some 22) (v := ?_) (a' := ?_) #[T_, F_, F_, F_, F_, F_, F_, F_, F_, F_, F_, F_, F_, F_, F_, F_, F_, F_, F_, F_, F_, F_, F_, F_, F_, F_] rfl rfl (any_of HT_.out (by kernel_rfl)) (fun _ _ _ h => h) (Or.inl ⟨by rfl, ?_⟩) ?_ ?_
 rotate_left
 ·intro w'
  go_simp
  with_reducible rfl
 rotate_left
 ·simp only [Act.put, la_, lz_, ls_, i64_w, i32_w]
  rfl
 refine pure_ (i := 3) (N := some 25) (v := ?_) (a' := ?_) #[T_, F_, F_, T_, F_, F_, F_, F_, F_, F_, F_, F_, F_, F_, F_, F_, F_, F_, F_, F_, F_, F_, F_, F_, F_, F_] rfl rfl (any_of HT_.out (by kernel_rfl)) (fun _ _ _ h => h) (Or.inl ⟨by rfl, ?_⟩) ?_ ?_
 rotate_left
 ·intro w'
  go_simp
  with_reducible rfl
 rotate_left
 ·simp only [Act.put, la_, lz_, ls_, i64_w, i32_w]
  rfl
 refine pure_ (i := 7) (N := some 29) (v := ?_) (a' := ?_) #[T_, F_, F_, T_, F_, F_, F_, T_, F_, F_, F_, F_, F_, F_, F_, F_, F_, F_, F_, F_, F_, F_, F_, F_, F_, F_] rfl rfl (any_of HT_.out (by kernel_rfl)) (fun _ _ _ h => h) (Or.inl ⟨by rfl, ?_⟩) ?_ ?_
 rotate_left
 ·intro w'
  go_simp
  with_reducible rfl
 rotate_left
 ·simp only [Act.put, la_, lz_, ls_, i64_w, i32_w]
  rfl
 refine pure_ (i := 10) (N := some 32) (v := ?_) (a' := ?_) #[T_, F_, F_, T_, F_, F_, F_, T_, F_, F_, T_, F_, F_, F_, F_, F_, F_, F_, F_, F_, F_, F_, F_, F_, F_, F_] rfl rfl (any_of HT_.out (by kernel_rfl)) (fun _ _ _ h => h) (Or.inl ⟨by rfl, ?_⟩) ?_ ?_
 rotate_left
 ·intro w'
  go_simp
  with_reducible rfl
 rotate_left
 ·simp only [Act.put, la_, lz_, ls_, i64_w, i32_w]
  rfl
 refine pure_ (i := 13) (N := some 35) (v := ?_) (a' := ?_) #[T_, F_, F_, T_, F_, F_, F_, T_, F_, F_, T_, F_, F_, T_, F_, F_, F_, F_, F_, F_, F_, F_, F_, F_, F_, F_] rfl rfl (any_of HT_.out (by kernel_rfl)) (fun _ _ _ h => h) (Or.inl ⟨by rfl, ?_⟩) ?_ ?_
 rotate_left
 ·intro w'
  go_simp
  with_reducible rfl
 rotate_left
 ·simp only [Act.put, la_, lz_, ls_, i64_w, i32_w]
  rfl
 refine pure_ (i := 16) (N := some 38) (v := ?_) (a' := ?_) #[T_, F_, F_, T_, F_, F_, F_, T_, F_, F_, T_, F_, F_, T_, F_, F_, T_, F_, F_, F_, F_, F_, F_, F_, F_, F_] rfl rfl (any_of HT_.out (by kernel_rfl)) (fun _ _ _ h => h) (Or.inl ⟨by rfl, ?_⟩) ?_ ?_
 rotate_left
 ·intro w'
  go_simp
  with_reducible rfl
 rotate_left
 ·simp only [Act.put, la_, lz_, ls_, i64_w, i32_w]
  rfl
 refine pure_ (i := 17) (N := some 39) (v := ?_) (a' := ?_) #[T_, F_, F_, T_, F_, F_, F_, T_, F_, F_, T_, F_, F_, T_, F_, F_, T_, T_, F_, F_, F_, F_, F_, F_, F_, F_] rfl rfl (any_of HT_.out (by kernel_rfl)) (fun _ _ _ h => h) (Or.inl ⟨by rfl, ?_⟩) ?_ ?_
 rotate_left
 ·intro w'
  go_simp
  with_reducible rfl
 rotate_left
 ·simp only [Act.put, la_, lz_, ls_, i64_w, i32_w]
  rfl
 refine pure_ (i := 18) (N := some 40) (v := ?_) (a' := ?_) #[T_, F_, F_, T_, F_, F_, F_, T_, F_, F_, T_, F_, F_, T_, F_, F_, T_, T_, T_, F_, F_, F_, F_, F_, F_, F_] rfl rfl (any_of HT_.out (by kernel_rfl)) (fun _ _ _ h => h) (Or.inl ⟨by rfl, ?_⟩) ?_ ?_
 rotate_left
 ·intro w'
  go_simp
  with_reducible rfl
 rotate_left
 ·simp only [Act.put, la_, lz_, ls_, i64_w, i32_w]
  rfl
 refine take_ (i := 1) (N := some 23) (v := ?_) (a' := ?_) #[T_, T_, F_, T_, F_, F_, F_, T_, F_, F_, T_, F_, F_, T_, F_, F_, T_, T_, T_, F_, F_, F_, F_, F_, F_, F_] rfl rfl (take_ofW HT_.out HW_.out (by kernel_rfl)) (fun _ _ _ h => h) (Or.inl ⟨by rfl, ?_⟩) hHeld ?_ ?_
 rotate_left
 ·rintro w' ⟨s0, s1, s2, s3, s4, s5, s6, s7, s8, s9, s10⟩
  go_simp
  with_reducible rfl
 rotate_left
 ·simp only [Act.put, la_, lz_, ls_, i64_w, i32_w]
  rfl
 refine pure_ (i := 2) (N := some 24) (v := ?_) (a' := ?_) #[T_, T_, T_, T_, F_, F_, F_, T_, F_, F_, T_, F_, F_, T_, F_, F_, T_, T_, T_, F_, F_, F_, F_, F_, F_, F_] rfl rfl (any_of HT_.out (by kernel_rfl)) (fun _ _ _ h => h) (Or.inl ⟨by rfl, ?_⟩) ?_ ?_
 rotate_left
 ·intro w'
  go_simp
  with_reducible rfl
 rotate_left
 ·simp only [Act.put, la_, lz_, ls_, i64_w, i32_w]
  rfl
 refine take_ (i := 4) (N := some 26) (v := ?_) (a' := ?_) #[T_, T_, T_, T_, T_, F_, F_, T_, F_, F_, T_, F_, F_, T_, F_, F_, T_, T_, T_, F_, F_, F_, F_, F_, F_, F_] rfl rfl (take_ofW HT_.out HW_.out (by kernel_rfl)) (fun _ _ _ h => h) (Or.inl ⟨by rfl, ?_⟩) hHeld ?_ ?_
 rotate_left
 ·rintro w' ⟨s0, s1, s2, s3, s4, s5, s6, s7, s8, s9, s10⟩
  go_simp
  with_reducible rfl
 rotate_left
 ·simp only [Act.put, la_, lz_, ls_, i64_w, i32_w]
  rfl
 refine pure_ (i := 5) (N := some 27) (v := ?_) (a' := ?_) #[T_, T_, T_, T_, T_, T_, F_, T_, F_, F_, T_, F_, F_, T_, F_, F_, T_, T_, T_, F_, F_, F_, F_, F_, F_, F_] rfl rfl (any_of HT_.out (by kernel_rfl)) (fun _ _ _ h => h) (Or.inl ⟨by rfl, ?_⟩) ?_ ?_
 rotate_left
 ·intro w'
  go_simp
  with_reducible rfl
 rotate_left
 ·simp only [Act.put, la_, lz_, ls_, i64_w, i32_w]
  rfl
 refine take_ (i := 8) (N := some 30) (v := ?_) (a' := ?_) #[T_, T_, T_, T_, T_, T_, F_, T_, T_, F_, T_, F_, F_, T_, F_, F_, T_, T_, T_, F_, F_, F_, F_, F_, F_, F_] rfl rfl (take_ofW HT_.out HW_.out (by kernel_rfl)) (fun _ _ _ h => h) (Or.inl ⟨by rfl, ?_⟩) hHeld ?_ ?_
 rotate_left
 ·rintro w' ⟨s0, s1, s2, s3, s4, s5, s6, s7, s8, s9, s10⟩
  go_simp
  with_reducible rfl
 rotate_left
 ·simp only [Act.put, la_, lz_, ls_, i64_w, i32_w]
  rfl
 refine take_ (i := 11) (N := some 33) (v := ?_) (a' := ?_) #[T_, T_, T_, T_, T_, T_, F_, T_, T_, F_, T_, T_, F_, T_, F_, F_, T_, T_, T_, F_, F_, F_, F_, F_, F_, F_] rfl rfl (take_ofW HT_.out HW_.out (by kernel_rfl)) (fun _ _ _ h => h) (Or.inl ⟨by rfl, ?_⟩) hHeld ?_ ?_
 rotate_left
 ·rintro w' ⟨s0, s1, s2, s3, s4, s5, s6, s7, s8, s9, s10⟩
  go_simp
  with_reducible rfl
 rotate_left
 ·simp only [Act.put, la_, lz_, ls_, i64_w, i32_w]
  rfl
 refine take_ (i := 14) (N := some 36) (v := ?_) (a' := ?_) #[T_, T_, T_, T_, T_, T_, F_, T_, T_, F_, T_, T_, F_, T_, T_, F_, T_, T_, T_, F_, F_, F_, F_, F_, F_, F_] rfl rfl (take_ofW HT_.out HW_.out (by kernel_rfl)) (fun _ _ _ h => h) (Or.inl ⟨by rfl, ?_⟩) hHeld ?_ ?_
 rotate_left
 ·rintro w' ⟨s0, s1, s2, s3, s4, s5, s6, s7, s8, s9, s10⟩
  go_simp
  with_reducible rfl
 rotate_left
 ·simp only [Act.put, la_, lz_, ls_, i64_w, i32_w]
  rfl
 refine pure_ (i := 15) (N := some 37) (v := ?_) (a' := ?_) #[T_, T_, T_, T_, T_, T_, F_, T_, T_, F_, T_, T_, F_, T_, T_, T_, T_, T_, T_, F_, F_, F_, F_, F_, F_, F_] rfl rfl (any_of HT_.out (by kernel_rfl)) (fun _ _ _ h => h) (Or.inl ⟨by rfl, ?_⟩) ?_ ?_
 rotate_left
 ·intro w'
  go_simp
  with_reducible rfl
 rotate_left
 ·simp only [Act.put, la_, lz_, ls_, i64_w, i32_w]
  rfl
 refine take_ (i := 19) (N := some 41) (v := ?_) (a' := ?_) #[T_, T_, T_, T_, T_, T_, F_, T_, T_, F_, T_, T_, F_, T_, T_, T_, T_, T_, T_, T_, F_, F_, F_, F_, F_, F_] rfl rfl (take_ofW HT_.out HW_.out (by kernel_rfl)) (fun _ _ _ h => h) (Or.inl ⟨by rfl, ?_⟩) hHeld ?_ ?_
 rotate_left
 ·rintro w' ⟨s0, s1, s2, s3, s4, s5, s6, s7, s8, s9, s10⟩
  go_simp
  with_reducible rfl
 rotate_left
 ·simp only [Act.put, la_, lz_, ls_, i64_w, i32_w]
  rfl
 refine pure_ (i := 20) (N := some 42) (v := ?_) (a' := ?_) #[T_, T_, T_, T_, T_, T_, F_, T_, T_, F_, T_, T_, F_, T_, T_, T_, T_, T_, T_, T_, T_, F_, F_, F_, F_, F_] rfl rfl (any_of HT_.out (by kernel_rfl)) (fun _ _ _ h => h) (Or.inl ⟨by rfl, ?_⟩) ?_ ?_
 rotate_left
 ·intro w'
  go_simp
  with_reducible rfl
 rotate_left
 ·simp only [Act.put, la_, lz_, ls_, i64_w, i32_w]
  rfl
 refine pure_ (i := 21) (N := some 43) (v := ?_) (a' := ?_) #[T_, T_, T_, T_, T_, T_, F_, T_, T_, F_, T_, T_, F_, T_, T_, T_, T_, T_, T_, T_, T_, T_, F_, F_, F_, F_] rfl rfl (any_of HT_.out (by kernel_rfl)) (fun _ _ _ h => h) (Or.inl ⟨by rfl, ?_⟩) ?_ ?_
 rotate_left
 ·intro w'
  go_simp
  with_reducible rfl
 rotate_left
 ·simp only [Act.put, la_, lz_, ls_, i64_w, i32_w]
  rfl
 refine join_ (σ := Value × Value × Value × Value) 3 #[T_, T_, T_, T_, T_, T_, T_, T_, T_, T_, T_, T_, T_, T_, T_, T_, T_, T_, T_, T_, T_, T_, T_, F_, F_, F_] (fun s_ => [(28, s_.1), (31, s_.2.1), (34, s_.2.2.1), (44, s_.2.2.2)]) (fun s_ w' => (w'.cell? ⟨gb238, 0, none⟩ = some (.int .i64 a0_0) ∧ w'.cell? ⟨gb238, 1, none⟩ = some (.int .i64 a0_1) ∧ w'.cell? ⟨gb238, 2, none⟩ = some (.int .i64 a0_2) ∧ w'.cell? ⟨gb238, 3, none⟩ = some (.int .i64 a0_3) ∧ w'.cell? ⟨gb238, 4, none⟩ = some (.int .i64 a0_4) ∧ w'.cell? ⟨gb238, 5, none⟩ = some (.bool a0_5) ∧ w'.cell? ⟨gb238, 6, none⟩ = some (.bool a0_6) ∧ w'.cell? ⟨gb238, 7, none⟩ = some (.bool a0_7) ∧ w'.cell? ⟨gb238, 8, none⟩ = some (.bool a0_8) ∧ w'.cell? ⟨gb238, 9, none⟩ = some (.slice A0_9 l0_9.length c0_9) ∧ w'.cell? ⟨gb238, 10, none⟩ = some (.slice A0_10 l0_10.length c0_10)) ∧ (Kd.V (Kd.int .u8) 5 w' w.heap.size (fun k_ => (P0_10_ k_ ∨ w.heap.size ≤ k_) ∧ some k_ ≠ (s_.1 : Value).ownBlock ∧ some k_ ≠ (s_.2.1 : Value).ownBlock ∧ some k_ ≠ (s_.2.2.1 : Value).ownBlock ∧ some k_ ≠ (s_.2.2.2 : Value).ownBlock ∧ k_ ≠ gb238) (.slice A0_10 l0_10.length c0_10) l0_10) ∧ (Kd.R (Kd.int .u8) 5 w' w.heap.size (fun k_ => (w.heap.size ≤ k_) ∧ some k_ ≠ (s_.2.1 : Value).ownBlock ∧ some k_ ≠ (s_.2.2.1 : Value).ownBlock ∧ some k_ ≠ (s_.2.2.2 : Value).ownBlock) s_.1 y243) ∧ (Kd.R (Kd.int .u8) 5 w' w.heap.size (fun k_ => (w.heap.size ≤ k_) ∧ some k_ ≠ (s_.1 : Value).ownBlock ∧ some k_ ≠ (s_.2.2.1 : Value).ownBlock ∧ some k_ ≠ (s_.2.2.2 : Value).ownBlock) s_.2.1 t246) ∧ (Kd.R (Kd.int .u8) 5 w' w.heap.size (fun k_ => (w.heap.size ≤ k_) ∧ some k_ ≠ (s_.1 : Value).ownBlock ∧ some k_ ≠ (s_.2.1 : Value).ownBlock ∧ some k_ ≠ (s_.2.2.2 : Value).ownBlock) s_.2.2.1 t249) ∧ (Kd.R (Kd.int .u8) 5 w' w.heap.size (fun k_ => (w.heap.size ≤ k_) ∧ some k_ ≠ (s_.1 : Value).ownBlock ∧ some k_ ≠ (s_.2.1 : Value).ownBlock ∧ some k_ ≠ (s_.2.2.1 : Value).ownBlock) s_.2.2.2 y252) ∧ (w'.heap[gb238]? = some (.cells #[.int .i64 a0_0, .int .i64 a0_1, .int .i64 a0_2, .int .i64 a0_3, .int .i64 a0_4, .bool a0_5, .bool a0_6, .bool a0_7, .bool a0_8, .slice A0_9 l0_9.length c0_9, .slice A0_10 l0_10.length c0_10] 31 (0, 0))) ∧ (Below w.heap.size w w')) ?_ ?_
 rotate_left
 ·intro hJ6_9_12_22
  refine join_ (σ := Value × Value × Value) 4 #[T_, T_, T_, T_, T_, T_, T_, T_, T_, T_, T_, T_, T_, T_, T_, T_, T_, T_, T_, T_, T_, T_, F_, F_, F_, F_] (fun s_ => [(28, s_.1), (31, s_.2.1), (34, s_.2.2)]) (fun s_ w' => (w'.cell? ⟨gb238, 0, none⟩ = some (.int .i64 a0_0) ∧ w'.cell? ⟨gb238, 1, none⟩ = some (.int .i64 a0_1) ∧ w'.cell? ⟨gb238, 2, none⟩ = some (.int .i64 a0_2) ∧ w'.cell? ⟨gb238, 3, none⟩ = some (.int .i64 a0_3) ∧ w'.cell? ⟨gb238, 4, none⟩ = some (.int .i64 a0_4) ∧ w'.cell? ⟨gb238, 5, none⟩ = some (.bool a0_5) ∧ w'.cell? ⟨gb238, 6, none⟩ = some (.bool a0_6) ∧ w'.cell? ⟨gb238, 7, none⟩ = some (.bool a0_7) ∧ w'.cell? ⟨gb238, 8, none⟩ = some (.bool a0_8) ∧ w'.cell? ⟨gb238, 9, none⟩ = some (.slice A0_9 l0_9.length c0_9) ∧ w'.cell? ⟨gb238, 10, none⟩ = some (.slice A0_10 l0_10.length c0_10)) ∧ (Kd.V (Kd.int .u8) 5 w' w.heap.size (fun k_ => (P0_10_ k_ ∨ w.heap.size ≤ k_) ∧ some k_ ≠ (s_.1 : Value).ownBlock ∧ some k_ ≠ (s_.2.1 : Value).ownBlock ∧ some k_ ≠ (s_.2.2 : Value).ownBlock ∧ k_ ≠ gb238) (.slice A0_10 l0_10.length c0_10) l0_10) ∧ (Kd.R (Kd.int .u8) 5 w' w.heap.size (fun k_ => (w.heap.size ≤ k_) ∧ some k_ ≠ (s_.2.1 : Value).ownBlock ∧ some k_ ≠ (s_.2.2 : Value).ownBlock) s_.1 y243) ∧ (Kd.R (Kd.int .u8) 5 w' w.heap.size (fun k_ => (w.heap.size ≤ k_) ∧ some k_ ≠ (s_.1 : Value).ownBlock ∧ some k_ ≠ (s_.2.2 : Value).ownBlock) s_.2.1 t246) ∧ (Kd.R (Kd.int .u8) 5 w' w.heap.size (fun k_ => (w.heap.size ≤ k_) ∧ some k_ ≠ (s_.1 : Value).ownBlock ∧ some k_ ≠ (s_.2.1 : Value).ownBlock) s_.2.2 t249) ∧ (w'.heap[gb238]? = some (.cells #[.int .i64 a0_0, .int .i64 a0_1, .int .i64 a0_2, .int .i64 a0_3, .int .i64 a0_4, .bool a0_5, .bool a0_6, .bool a0_7, .bool a0_8, .slice A0_9 l0_9.length c0_9, .slice A0_10 l0_10.length c0_10] 31 (0, 0))) ∧ (Below w.heap.size w w')) ?_ ?_
  rotate_left
  ·intro hJ6_9_12
   refine join_ (σ := Value × Value × Value) 4 #[T_, T_, T_, T_, T_, T_, T_, T_, T_, T_, T_, T_, F_, T_, T_, T_, T_, T_, T_, T_, T_, T_, T_, F_, F_, F_] (fun s_ => [(28, s_.1), (31, s_.2.1), (44, s_.2.2)]) (fun s_ w' => (w'.cell? ⟨gb238, 0, none⟩ = some (.int .i64 a0_0) ∧ w'.cell? ⟨gb238, 1, none⟩ = some (.int .i64 a0_1) ∧ w'.cell? ⟨gb238, 2, none⟩ = some (.int .i64 a0_2) ∧ w'.cell? ⟨gb238, 3, none⟩ = some (.int .i64 a0_3) ∧ w'.cell? ⟨gb238, 4, none⟩ = some (.int .i64 a0_4) ∧ w'.cell? ⟨gb238, 5, none⟩ = some (.bool a0_5) ∧ w'.cell? ⟨gb238, 6, none⟩ = some (.bool a0_6) ∧ w'.cell? ⟨gb238, 7, none⟩ = some (.bool a0_7) ∧ w'.cell? ⟨gb238, 8, none⟩ = some (.bool a0_8) ∧ w'.cell? ⟨gb238, 9, none⟩ = some (.slice A0_9 l0_9.length c0_9) ∧ w'.cell? ⟨gb238, 10, none⟩ = some (.slice A0_10 l0_10.length c0_10)) ∧ (Kd.V (Kd.int .u8) 5 w' w.heap.size (fun k_ => (P0_10_ k_ ∨ w.heap.size ≤ k_) ∧ some k_ ≠ (s_.1 : Value).ownBlock ∧ some k_ ≠ (s_.2.1 : Value).ownBlock ∧ some k_ ≠ (s_.2.2 : Value).ownBlock ∧ k_ ≠ gb238) (.slice A0_10 l0_10.length c0_10) l0_10) ∧ (Kd.R (Kd.int .u8) 5 w' w.heap.size (fun k_ => (w.heap.size ≤ k_) ∧ some k_ ≠ (s_.2.1 : Value).ownBlock ∧ some k_ ≠ (s_.2.2 : Value).ownBlock) s_.1 y243) ∧ (Kd.R (Kd.int .u8) 5 w' w.heap.size (fun k_ => (w.heap.size ≤ k_) ∧ some k_ ≠ (s_.1 : Value).ownBlock ∧ some k_ ≠ (s_.2.2 : Value).ownBlock) s_.2.1 t246) ∧ (Kd.R (Kd.int .u8) 5 w' w.heap.size (fun k_ => (w.heap.size ≤ k_) ∧ some k_ ≠ (s_.1 : Value).ownBlock ∧ some k_ ≠ (s_.2.1 : Value).ownBlock) s_.2.2 y252) ∧ (w'.heap[gb238]? = some (.cells #[.int .i64 a0_0, .int .i64 a0_1, .int .i64 a0_2, .int .i64 a0_3, .int .i64 a0_4, .bool a0_5, .bool a0_6, .bool a0_7, .bool a0_8, .slice A0_9 l0_9.length c0_9, .slice A0_10 l0_10.length c0_10] 31 (0, 0))) ∧ (Below w.heap.size w w')) ?_ ?_
   rotate_left
   ·intro hJ6_9_22
    refine join_ (σ := Value × Value × Value) 4 #[T_, T_, T_, T_, T_, T_, F_, T_, T_, T_, T_, T_, T_, T_, T_, T_, T_, T_, T_, T_, T_, T_, T_, F_, F_, F_] (fun s_ => [(31, s_.1), (34, s_.2.1), (44, s_.2.2)]) (fun s_ w' => (w'.cell? ⟨gb238, 0, none⟩ = some (.int .i64 a0_0) ∧ w'.cell? ⟨gb238, 1, none⟩ = some (.int .i64 a0_1) ∧ w'.cell? ⟨gb238, 2, none⟩ = some (.int .i64 a0_2) ∧ w'.cell? ⟨gb238, 3, none⟩ = some (.int .i64 a0_3) ∧ w'.cell? ⟨gb238, 4, none⟩ = some (.int .i64 a0_4) ∧ w'.cell? ⟨gb238, 5, none⟩ = some (.bool a0_5) ∧ w'.cell? ⟨gb238, 6, none⟩ = some (.bool a0_6) ∧ w'.cell? ⟨gb238, 7, none⟩ = some (.bool a0_7) ∧ w'.cell? ⟨gb238, 8, none⟩ = some (.bool a0_8) ∧ w'.cell? ⟨gb238, 9, none⟩ = some (.slice A0_9 l0_9.length c0_9) ∧ w'.cell? ⟨gb238, 10, none⟩ = some (.slice A0_10 l0_10.length c0_10)) ∧ (Kd.V (Kd.int .u8) 5 w' w.heap.size (fun k_ => (P0_10_ k_ ∨ w.heap.size ≤ k_) ∧ some k_ ≠ (s_.1 : Value).ownBlock ∧ some k_ ≠ (s_.2.1 : Value).ownBlock ∧ some k_ ≠ (s_.2.2 : Value).ownBlock ∧ k_ ≠ gb238) (.slice A0_10 l0_10.length c0_10) l0_10) ∧ (Kd.R (Kd.int .u8) 5 w' w.heap.size (fun k_ => (w.heap.size ≤ k_) ∧ some k_ ≠ (s_.2.1 : Value).ownBlock ∧ some k_ ≠ (s_.2.2 : Value).ownBlock) s_.1 t246) ∧ (Kd.R (Kd.int .u8) 5 w' w.heap.size (fun k_ => (w.heap.size ≤ k_) ∧ some k_ ≠ (s_.1 : Value).ownBlock ∧ some k_ ≠ (s_.2.2 : Value).ownBlock) s_.2.1 t249) ∧ (Kd.R (Kd.int .u8) 5 w' w.heap.size (fun k_ => (w.heap.size ≤ k_) ∧ some k_ ≠ (s_.1 : Value).ownBlock ∧ some k_ ≠ (s_.2.1 : Value).ownBlock) s_.2.2 y252) ∧ (w'.heap[gb238]? = some (.cells #[.int .i64 a0_0, .int .i64 a0_1, .int .i64 a0_2, .int .i64 a0_3, .int .i64 a0_4, .bool a0_5, .bool a0_6, .bool a0_7, .bool a0_8, .slice A0_9 l0_9.length c0_9, .slice A0_10 l0_10.length c0_10] 31 (0, 0))) ∧ (Below w.heap.size w w')) ?_ ?_
    rotate_left
    ·intro hJ9_12_22
     refine join_ (σ := Value × Value) 5 #[T_, T_, T_, T_, T_, T_, T_, T_, T_, T_, T_, T_, F_, T_, T_, T_, T_, T_, T_, T_, T_, T_, F_, F_, F_, F_] (fun s_ => [(28, s_.1), (31, s_.2)]) (fun s_ w' => (w'.cell? ⟨gb238, 0, none⟩ = some (.int .i64 a0_0) ∧ w'.cell? ⟨gb238, 1, none⟩ = some (.int .i64 a0_1) ∧ w'.cell? ⟨gb238, 2, none⟩ = some (.int .i64 a0_2) ∧ w'.cell? ⟨gb238, 3, none⟩ = some (.int .i64 a0_3) ∧ w'.cell? ⟨gb238, 4, none⟩ = some (.int .i64 a0_4) ∧ w'.cell? ⟨gb238, 5, none⟩ = some (.bool a0_5) ∧ w'.cell? ⟨gb238, 6, none⟩ = some (.bool a0_6) ∧ w'.cell? ⟨gb238, 7, none⟩ = some (.bool a0_7) ∧ w'.cell? ⟨gb238, 8, none⟩ = some (.bool a0_8) ∧ w'.cell? ⟨gb238, 9, none⟩ = some (.slice A0_9 l0_9.length c0_9) ∧ w'.cell? ⟨gb238, 10, none⟩ = some (.slice A0_10 l0_10.length c0_10)) ∧ (Kd.V (Kd.int .u8) 5 w' w.heap.size (fun k_ => (P0_10_ k_ ∨ w.heap.size ≤ k_) ∧ some k_ ≠ (s_.1 : Value).ownBlock ∧ some k_ ≠ (s_.2 : Value).ownBlock ∧ k_ ≠ gb238) (.slice A0_10 l0_10.length c0_10) l0_10) ∧ (Kd.R (Kd.int .u8) 5 w' w.heap.size (fun k_ => (w.heap.size ≤ k_) ∧ some k_ ≠ (s_.2 : Value).ownBlock) s_.1 y243) ∧ (Kd.R (Kd.int .u8) 5 w' w.heap.size (fun k_ => (w.heap.size ≤ k_) ∧ some k_ ≠ (s_.1 : Value).ownBlock) s_.2 t246) ∧ (w'.heap[gb238]? = some (.cells #[.int .i64 a0_0, .int .i64 a0_1, .int .i64 a0_2, .int .i64 a0_3, .int .i64 a0_4, .bool a0_5, .bool a0_6, .bool a0_7, .bool a0_8, .slice A0_9 l0_9.length c0_9, .slice A0_10 l0_10.length c0_10] 31 (0, 0))) ∧ (Below w.heap.size w w')) ?_ ?_
     rotate_left
     ·intro hJ6_9
      refine join_ (σ := Value × Value) 5 #[T_, T_, T_, T_, T_, T_, T_, T_, T_, F_, T_, T_, F_, T_, T_, T_, T_, T_, T_, T_, T_, T_, T_, F_, F_, F_] (fun s_ => [(28, s_.1), (44, s_.2)]) (fun s_ w' => (w'.cell? ⟨gb238, 0, none⟩ = some (.int .i64 a0_0) ∧ w'.cell? ⟨gb238, 1, none⟩ = some (.int .i64 a0_1) ∧ w'.cell? ⟨gb238, 2, none⟩ = some (.int .i64 a0_2) ∧ w'.cell? ⟨gb238, 3, none⟩ = some (.int .i64 a0_3) ∧ w'.cell? ⟨gb238, 4, none⟩ = some (.int .i64 a0_4) ∧ w'.cell? ⟨gb238, 5, none⟩ = some (.bool a0_5) ∧ w'.cell? ⟨gb238, 6, none⟩ = some (.bool a0_6) ∧ w'.cell? ⟨gb238, 7, none⟩ = some (.bool a0_7) ∧ w'.cell? ⟨gb238, 8, none⟩ = some (.bool a0_8) ∧ w'.cell? ⟨gb238, 9, none⟩ = some (.slice A0_9 l0_9.length c0_9) ∧ w'.cell? ⟨gb238, 10, none⟩ = some (.slice A0_10 l0_10.length c0_10)) ∧ (Kd.V (Kd.int .u8) 5 w' w.heap.size (fun k_ => (P0_10_ k_ ∨ w.heap.size ≤ k_) ∧ some k_ ≠ (s_.1 : Value).ownBlock ∧ some k_ ≠ (s_.2 : Value).ownBlock ∧ k_ ≠ gb238) (.slice A0_10 l0_10.length c0_10) l0_10) ∧ (Kd.R (Kd.int .u8) 5 w' w.heap.size (fun k_ => (w.heap.size ≤ k_) ∧ some k_ ≠ (s_.2 : Value).ownBlock) s_.1 y243) ∧ (Kd.R (Kd.int .u8) 5 w' w.heap.size (fun k_ => (w.heap.size ≤ k_) ∧ some k_ ≠ (s_.1 : Value).ownBlock) s_.2 y252) ∧ (w'.heap[gb238]? = some (.cells #[.int .i64 a0_0, .int .i64 a0_1, .int .i64 a0_2, .int .i64 a0_3, .int .i64 a0_4, .bool a0_5, .bool a0_6, .bool a0_7, .bool a0_8, .slice A0_9 l0_9.length c0_9, .slice A0_10 l0_10.length c0_10] 31 (0, 0))) ∧ (Below w.heap.size w w')) ?_ ?_
      rotate_left
      ·intro hJ6_22
       refine join_ (σ := Value × Value) 5 #[T_, T_, T_, T_, T_, T_, F_, T_, T_, T_, T_, T_, T_, T_, T_, T_, T_, T_, T_, T_, T_, T_, F_, F_, F_, F_] (fun s_ => [(31, s_.1), (34, s_.2)]) (fun s_ w' => (w'.cell? ⟨gb238, 0, none⟩ = some (.int .i64 a0_0) ∧ w'.cell? ⟨gb238, 1, none⟩ = some (.int .i64 a0_1) ∧ w'.cell? ⟨gb238, 2, none⟩ = some (.int .i64 a0_2) ∧ w'.cell? ⟨gb238, 3, none⟩ = some (.int .i64 a0_3) ∧ w'.cell? ⟨gb238, 4, none⟩ = some (.int .i64 a0_4) ∧ w'.cell? ⟨gb238, 5, none⟩ = some (.bool a0_5) ∧ w'.cell? ⟨gb238, 6, none⟩ = some (.bool a0_6) ∧ w'.cell? ⟨gb238, 7, none⟩ = some (.bool a0_7) ∧ w'.cell? ⟨gb238, 8, none⟩ = some (.bool a0_8) ∧ w'.cell? ⟨gb238, 9, none⟩ = some (.slice A0_9 l0_9.length c0_9) ∧ w'.cell? ⟨gb238, 10, none⟩ = some (.slice A0_10 l0_10.length c0_10)) ∧ (Kd.V (Kd.int .u8) 5 w' w.heap.size (fun k_ => (P0_10_ k_ ∨ w.heap.size ≤ k_) ∧ some k_ ≠ (s_.1 : Value).ownBlock ∧ some k_ ≠ (s_.2 : Value).ownBlock ∧ k_ ≠ gb238) (.slice A0_10 l0_10.length c0_10) l0_10) ∧ (Kd.R (Kd.int .u8) 5 w' w.heap.size (fun k_ => (w.heap.size ≤ k_) ∧ some k_ ≠ (s_.2 : Value).ownBlock) s_.1 t246) ∧ (Kd.R (Kd.int .u8) 5 w' w.heap.size (fun k_ => (w.heap.size ≤ k_) ∧ some k_ ≠ (s_.1 : Value).ownBlock) s_.2 t249) ∧ (w'.heap[gb238]? = some (.cells #[.int .i64 a0_0, .int .i64 a0_1, .int .i64 a0_2, .int .i64 a0_3, .int .i64 a0_4, .bool a0_5, .bool a0_6, .bool a0_7, .bool a0_8, .slice A0_9 l0_9.length c0_9, .slice A0_10 l0_10.length c0_10] 31 (0, 0))) ∧ (Below w.heap.size w w')) ?_ ?_
       rotate_left
       ·intro hJ9_12
        refine join_ (σ := Value × Value) 5 #[T_, T_, T_, T_, T_, T_, F_, T_, T_, T_, T_, T_, F_, T_, T_, T_, T_, T_, T_, T_, T_, T_, T_, F_, F_, F_] (fun s_ => [(31, s_.1), (44, s_.2)]) (fun s_ w' => (w'.cell? ⟨gb238, 0, none⟩ = some (.int .i64 a0_0) ∧ w'.cell? ⟨gb238, 1, none⟩ = some (.int .i64 a0_1) ∧ w'.cell? ⟨gb238, 2, none⟩ = some (.int .i64 a0_2) ∧ w'.cell? ⟨gb238, 3, none⟩ = some (.int .i64 a0_3) ∧ w'.cell? ⟨gb238, 4, none⟩ = some (.int .i64 a0_4) ∧ w'.cell? ⟨gb238, 5, none⟩ = some (.bool a0_5) ∧ w'.cell? ⟨gb238, 6, none⟩ = some (.bool a0_6) ∧ w'.cell? ⟨gb238, 7, none⟩ = some (.bool a0_7) ∧ w'.cell? ⟨gb238, 8, none⟩ = some (.bool a0_8) ∧ w'.cell? ⟨gb238, 9, none⟩ = some (.slice A0_9 l0_9.length c0_9) ∧ w'.cell? ⟨gb238, 10, none⟩ = some (.slice A0_10 l0_10.length c0_10)) ∧ (Kd.V (Kd.int .u8) 5 w' w.heap.size (fun k_ => (P0_10_ k_ ∨ w.heap.size ≤ k_) ∧ some k_ ≠ (s_.1 : Value).ownBlock ∧ some k_ ≠ (s_.2 : Value).ownBlock ∧ k_ ≠ gb238) (.slice A0_10 l0_10.length c0_10) l0_10) ∧ (Kd.R (Kd.int .u8) 5 w' w.heap.size (fun k_ => (w.heap.size ≤ k_) ∧ some k_ ≠ (s_.2 : Value).ownBlock) s_.1 t246) ∧ (Kd.R (Kd.int .u8) 5 w' w.heap.size (fun k_ => (w.heap.size ≤ k_) ∧ some k_ ≠ (s_.1 : Value).ownBlock) s_.2 y252) ∧ (w'.heap[gb238]? = some (.cells #[.int .i64 a0_0, .int .i64 a0_1, .int .i64 a0_2, .int .i64 a0_3, .int .i64 a0_4, .bool a0_5, .bool a0_6, .bool a0_7, .bool a0_8, .slice A0_9 l0_9.length c0_9, .slice A0_10 l0_10.length c0_10] 31 (0, 0))) ∧ (Below w.heap.size w w')) ?_ ?_
        rotate_left
        ·intro hJ9_22
         refine join_ (σ := Value) 6 #[T_, T_, T_, T_, T_, T_, T_, T_, T_, F_, T_, T_, F_, T_, T_, T_, T_, T_, T_, T_, T_, T_, F_, F_, F_, F_] (fun s_ => [(28, s_)]) (fun s_ w' => (w'.cell? ⟨gb238, 0, none⟩ = some (.int .i64 a0_0) ∧ w'.cell? ⟨gb238, 1, none⟩ = some (.int .i64 a0_1) ∧ w'.cell? ⟨gb238, 2, none⟩ = some (.int .i64 a0_2) ∧ w'.cell? ⟨gb238, 3, none⟩ = some (.int .i64 a0_3) ∧ w'.cell? ⟨gb238, 4, none⟩ = some (.int .i64 a0_4) ∧ w'.cell? ⟨gb238, 5, none⟩ = some (.bool a0_5) ∧ w'.cell? ⟨gb238, 6, none⟩ = some (.bool a0_6) ∧ w'.cell? ⟨gb238, 7, none⟩ = some (.bool a0_7) ∧ w'.cell? ⟨gb238, 8, none⟩ = some (.bool a0_8) ∧ w'.cell? ⟨gb238, 9, none⟩ = some (.slice A0_9 l0_9.length c0_9) ∧ w'.cell? ⟨gb238, 10, none⟩ = some (.slice A0_10 l0_10.length c0_10)) ∧ (Kd.V (Kd.int .u8) 5 w' w.heap.size (fun k_ => (P0_10_ k_ ∨ w.heap.size ≤ k_) ∧ some k_ ≠ (s_ : Value).ownBlock ∧ k_ ≠ gb238) (.slice A0_10 l0_10.length c0_10) l0_10) ∧ (Kd.R (Kd.int .u8) 5 w' w.heap.size (fun k_ => (w.heap.size ≤ k_)) s_ y243) ∧ (w'.heap[gb238]? = some (.cells #[.int .i64 a0_0, .int .i64 a0_1, .int .i64 a0_2, .int .i64 a0_3, .int .i64 a0_4, .bool a0_5, .bool a0_6, .bool a0_7, .bool a0_8, .slice A0_9 l0_9.length c0_9, .slice A0_10 l0_10.length c0_10] 31 (0, 0))) ∧ (Below w.heap.size w w')) ?_ ?_
         rotate_left
         ·intro hJ6
          refine join_ (σ := Value) 6 #[T_, T_, T_, T_, T_, T_, F_, T_, T_, T_, T_, T_, F_, T_, T_, T_, T_, T_, T_, T_, T_, T_, F_, F_, F_, F_] (fun s_ => [(31, s_)]) (fun s_ w' => (w'.cell? ⟨gb238, 0, none⟩ = some (.int .i64 a0_0) ∧ w'.cell? ⟨gb238, 1, none⟩ = some (.int .i64 a0_1) ∧ w'.cell? ⟨gb238, 2, none⟩ = some (.int .i64 a0_2) ∧ w'.cell? ⟨gb238, 3, none⟩ = some (.int .i64 a0_3) ∧ w'.cell? ⟨gb238, 4, none⟩ = some (.int .i64 a0_4) ∧ w'.cell? ⟨gb238, 5, none⟩ = some (.bool a0_5) ∧ w'.cell? ⟨gb238, 6, none⟩ = some (.bool a0_6) ∧ w'.cell? ⟨gb238, 7, none⟩ = some (.bool a0_7) ∧ w'.cell? ⟨gb238, 8, none⟩ = some (.bool a0_8) ∧ w'.cell? ⟨gb238, 9, none⟩ = some (.slice A0_9 l0_9.length c0_9) ∧ w'.cell? ⟨gb238, 10, none⟩ = some (.slice A0_10 l0_10.length c0_10)) ∧ (Kd.V (Kd.int .u8) 5 w' w.heap.size (fun k_ => (P0_10_ k_ ∨ w.heap.size ≤ k_) ∧ some k_ ≠ (s_ : Value).ownBlock ∧ k_ ≠ gb238) (.slice A0_10 l0_10.length c0_10) l0_10) ∧ (Kd.R (Kd.int .u8) 5 w' w.heap.size (fun k_ => (w.heap.size ≤ k_)) s_ t246) ∧ (w'.heap[gb238]? = some (.cells #[.int .i64 a0_0, .int .i64 a0_1, .int .i64 a0_2, .int .i64 a0_3, .int .i64 a0_4, .bool a0_5, .bool a0_6, .bool a0_7, .bool a0_8, .slice A0_9 l0_9.length c0_9, .slice A0_10 l0_10.length c0_10] 31 (0, 0))) ∧ (Below w.heap.size w w')) ?_ ?_
          rotate_left
          ·intro hJ9
           refine join_ (σ := Value) 6 #[T_, T_, T_, T_, T_, T_, F_, T_, T_, F_, T_, T_, F_, T_, T_, T_, T_, T_, T_, T_, T_, T_, T_, F_, F_, F_] (fun s_ => [(44, s_)]) (fun s_ w' => (w'.cell? ⟨gb238, 0, none⟩ = some (.int .i64 a0_0) ∧ w'.cell? ⟨gb238, 1, none⟩ = some (.int .i64 a0_1) ∧ w'.cell? ⟨gb238, 2, none⟩ = some (.int .i64 a0_2) ∧ w'.cell? ⟨gb238, 3, none⟩ = some (.int .i64 a0_3) ∧ w'.cell? ⟨gb238, 4, none⟩ = some (.int .i64 a0_4) ∧ w'.cell? ⟨gb238, 5, none⟩ = some (.bool a0_5) ∧ w'.cell? ⟨gb238, 6, none⟩ = some (.bool a0_6) ∧ w'.cell? ⟨gb238, 7, none⟩ = some (.bool a0_7) ∧ w'.cell? ⟨gb238, 8, none⟩ = some (.bool a0_8) ∧ w'.cell? ⟨gb238, 9, none⟩ = some (.slice A0_9 l0_9.length c0_9) ∧ w'.cell? ⟨gb238, 10, none⟩ = some (.slice A0_10 l0_10.length c0_10)) ∧ (Kd.V (Kd.int .u8) 5 w' w.heap.size (fun k_ => (P0_10_ k_ ∨ w.heap.size ≤ k_) ∧ some k_ ≠ (s_ : Value).ownBlock ∧ k_ ≠ gb238) (.slice A0_10 l0_10.length c0_10) l0_10) ∧ (Kd.R (Kd.int .u8) 5 w' w.heap.size (fun k_ => (w.heap.size ≤ k_)) s_ y252) ∧ (w'.heap[gb238]? = some (.cells #[.int .i64 a0_0, .int .i64 a0_1, .int .i64 a0_2, .int .i64 a0_3, .int .i64 a0_4, .bool a0_5, .bool a0_6, .bool a0_7, .bool a0_8, .slice A0_9 l0_9.length c0_9, .slice A0_10 l0_10.length c0_10] 31 (0, 0))) ∧ (Below w.heap.size w w')) ?_ ?_
           rotate_left
           ·intro hJ22
            refine three_ (i := 6) (j := 9) (k := 22) (Ni := some 28) (Nj := some 31) (Nk := some 44) #[T_, T_, T_, T_, T_, T_, T_, T_, T_, F_, T_, T_, F_, T_, T_, T_, T_, T_, T_, T_, T_, T_, F_, F_, F_, F_] #[T_, T_, T_, T_, T_, T_, F_, T_, T_, T_, T_, T_, F_, T_, T_, T_, T_, T_, T_, T_, T_, T_, F_, F_, F_, F_] #[T_, T_, T_, T_, T_, T_, F_, T_, T_, F_, T_, T_, F_, T_, T_, T_, T_, T_, T_, T_, T_, T_, T_, F_, F_, F_] rfl rfl rfl rfl rfl rfl (three_of HT_.out (by kernel_rfl)) (by decide) (by decide) (by decide) (fun K hK => ?_) (fun K hK => ?_) (fun K hK => ?_)
            ·skip
             refine Kd.R_lit_step (Kd.int .u8) _ 5 ?hg (N := 28) ?hd (xs := ([(a0_0) % 256, (a0_1) % 256] : List Int)) (inner := [.int .u8 ((a0_0) % 256), .int .u8 ((a0_1) % 256)]) (ok := fun _ => True) (okp := fun _ => True) ?hr ?hp (fun _ hk => hk) trivial (Below.refl _ _) (Nat.le_refl _) (by simp) ?_; (case hd => rfl); (case hg => rfl); (case hr => first | (go_simp; done) | (go_simp; rfl)); (case hp => exact (Reps.one (show Kd.M (Kd.int .u8) _ _ _ ((a0_0) % 256) [.int .u8 ((a0_0) % 256)] from rfl) (Reps.one (show Kd.M (Kd.int .u8) _ _ _ ((a0_1) % 256) [.int .u8 ((a0_1) % 256)] from rfl) (Reps.none _ _))))
             intro v244 w12 ho13 hb hg_ hnew_
             clear hg_ hnew_
             (first | rw [← Ny243.out] at ho13 | (simp only [Int.reduceToNat] at ho13; rw [← Ny243.out] at ho13))
             have n0_ := mk_ (Kd.V_elder' (by (with_reducible repeat (first | apply Kd.V_alloc | apply Kd.V_drewN | apply Kd.V_drew)); exact HO0_10.out) (Kd.R_base ho13) hb)
             have n1_ := mk_ (Kd.R_lower (Kd.R_newM (M := fun k_ => (w.heap.size ≤ k_)) ho13 (below_size (us_ HB.out)) (fun k_ h_ => h_)) (below_size (us_ HB.out)))
             have n2_ := mk_ (blk_below (u_ BK238.out) hb)
             have n3_ := mk_ (below_step (us_ HB.out) hb)
             clear HO0_10
             clear BK238
             clear HB
             have HO0_10 := n0_
             have HO245 := n1_
             have BK238 := n2_
             have HB := n3_
             clear n0_ n1_ n2_ n3_
             clear hb ho13
             refine hK.out _ _ ⟨(blk_cell BK238.out 0).trans rfl, (blk_cell BK238.out 1).trans rfl, (blk_cell BK238.out 2).trans rfl, (blk_cell BK238.out 3).trans rfl, (blk_cell BK238.out 4).trans rfl, (blk_cell BK238.out 5).trans rfl, (blk_cell BK238.out 6).trans rfl, (blk_cell BK238.out 7).trans rfl, (blk_cell BK238.out 8).trans rfl, (blk_cell BK238.out 9).trans rfl, (blk_cell BK238.out 10).trans rfl⟩ (fun hHeld => ?_)
             clear hK K
             refine norm_ (a' := ?_) ?_ ?_
             rotate_left
             ·show Act.put _ (some 28) _ = _
              simp only [Act.put, la_, lz_, ls_, i64_w, i32_w]
              rfl
             exact norm_ (by first | (simp only [putAll, Act.put, la_, lz_, ls_]; done) | (simp only [putAll, Act.put, la_, lz_, ls_]; rfl)) (hJ6 (v244) _ ⟨hHeld, (by (with_reducible repeat (first | apply Kd.V_alloc | apply Kd.V_drewN | apply Kd.V_drew)); exact Kd.V_mono HO0_10.out (fun _ hk => by first | exact ⟨hk.1.1, ⟨hk.2, hk.1.2⟩⟩ | exact hk.1 | exact hk | exact ⟨hk.1, hk.2⟩ | exact ⟨.inr hk.1, hk.2⟩ | simp only [hk, ne_eq, not_false_eq_true, and_self])), (by (with_reducible repeat (first | apply Kd.R_alloc | apply Kd.R_drewN | apply Kd.R_drew)); exact Kd.R_mono HO245.out (fun _ hk => hk.1)), (u_ BK238.out), (us_ HB.out)⟩)
            ·skip
             refine goes_ Try.func63 (by kernel_rfl) rfl #[.int .i64 a0_2, .int .i64 2] (by rfl) rfl rfl (by (try simp only [lm_, lo_, ln_]); first | done | rfl | (simp only [List.length_drop, List.length_take]; rfl)) ?_
             with_reducible refine (impl_bytesOf.calls k a0_2 2 t246 _ A6.out).mono ?_
             rintro e w12 ⟨v247, rfl, ho0, hb⟩
             refine ⟨_, rfl, ?_⟩
             have n0_ := mk_ (Kd.V_elder' (by (with_reducible repeat (first | apply Kd.V_alloc | apply Kd.V_drewN | apply Kd.V_drew)); exact HO0_10.out) (Kd.R_base ho0) hb)
             have n1_ := mk_ (Kd.R_lower (Kd.R_newM (M := fun k_ => (w.heap.size ≤ k_)) ho0 (below_size (us_ HB.out)) (fun k_ h_ => h_)) (below_size (us_ HB.out)))
             have n2_ := mk_ (blk_below (u_ BK238.out) hb)
             have n3_ := mk_ (below_step (us_ HB.out) hb)
             clear HO0_10
             clear BK238
             clear HB
             have HO0_10 := n0_
             have HO248 := n1_
             have BK238 := n2_
             have HB := n3_
             clear n0_ n1_ n2_ n3_
             (try clear hb)
             (try clear hb2)
             (try clear hk)
             (try clear hi)
             (try clear ho0)
             refine hK.out _ _ ⟨(blk_cell BK238.out 0).trans rfl, (blk_cell BK238.out 1).trans rfl, (blk_cell BK238.out 2).trans rfl, (blk_cell BK238.out 3).trans rfl, (blk_cell BK238.out 4).trans rfl, (blk_cell BK238.out 5).trans rfl, (blk_cell BK238.out 6).trans rfl, (blk_cell BK238.out 7).trans rfl, (blk_cell BK238.out 8).trans rfl, (blk_cell BK238.out 9).trans rfl, (blk_cell BK238.out 10).trans rfl⟩ (fun hHeld => ?_)
             clear hK K
             refine norm_ (a' := ?_) ?_ ?_
             rotate_left
             ·show Act.put _ (some 31) _ = _
              simp only [Act.put, la_, lz_, ls_, i64_w, i32_w]
              rfl
             exact norm_ (by first | (simp only [putAll, Act.put, la_, lz_, ls_]; done) | (simp only [putAll, Act.put, la_, lz_, ls_]; rfl)) (hJ9 (v247) _ ⟨hHeld, (by (with_reducible repeat (first | apply Kd.V_alloc | apply Kd.V_drewN | apply Kd.V_drew)); exact Kd.V_mono HO0_10.out (fun _ hk => by first | exact ⟨hk.1.1, ⟨hk.2, hk.1.2⟩⟩ | exact hk.1 | exact hk | exact ⟨hk.1, hk.2⟩ | exact ⟨.inr hk.1, hk.2⟩ | simp only [hk, ne_eq, not_false_eq_true, and_self])), (by (with_reducible repeat (first | apply Kd.R_alloc | apply Kd.R_drewN | apply Kd.R_drew)); exact Kd.R_mono HO248.out (fun _ hk => hk.1)), (u_ BK238.out), (us_ HB.out)⟩)
            skip
            refine Kd.R_lit_step (Kd.int .u8) _ 5 ?hg (N := 44) ?hd (xs := ([(a0_4) % 256, (wrap64 ((wrap64 ((wrap64 (t239 + t240)) + t241)) + t242)) % 256, ((l0_9.length : Int)) % 256] : List Int)) (inner := [.int .u8 ((a0_4) % 256), .int .u8 ((wrap64 ((wrap64 ((wrap64 (t239 + t240)) + t241)) + t242)) % 256), .int .u8 (((l0_9.length : Int)) % 256)]) (ok := fun _ => True) (okp := fun _ => True) ?hr ?hp (fun _ hk => hk) trivial (Below.refl _ _) (Nat.le_refl _) (by simp) ?_; (case hd => rfl); (case hg => rfl); (case hr => first | (go_simp; done) | (go_simp; rfl)); (case hp => exact (Reps.one (show Kd.M (Kd.int .u8) _ _ _ ((a0_4) % 256) [.int .u8 ((a0_4) % 256)] from rfl) (Reps.one (show Kd.M (Kd.int .u8) _ _ _ ((wrap64 ((wrap64 ((wrap64 (t239 + t240)) + t241)) + t242)) % 256) [.int .u8 ((wrap64 ((wrap64 ((wrap64 (t239 + t240)) + t241)) + t242)) % 256)] from rfl) (Reps.one (show Kd.M (Kd.int .u8) _ _ _ (((l0_9.length : Int)) % 256) [.int .u8 (((l0_9.length : Int)) % 256)] from rfl) (Reps.none _ _)))))
            intro v253 w12 ho13 hb hg_ hnew_
            clear hg_ hnew_
            (first | rw [← Ny252.out] at ho13 | (simp only [Int.reduceToNat] at ho13; rw [← Ny252.out] at ho13))
            have n0_ := mk_ (Kd.V_elder' (by (with_reducible repeat (first | apply Kd.V_alloc | apply Kd.V_drewN | apply Kd.V_drew)); exact HO0_10.out) (Kd.R_base ho13) hb)
            have n1_ := mk_ (Kd.R_lower (Kd.R_newM (M := fun k_ => (w.heap.size ≤ k_)) ho13 (below_size (us_ HB.out)) (fun k_ h_ => h_)) (below_size (us_ HB.out)))
            have n2_ := mk_ (blk_below (u_ BK238.out) hb)
            have n3_ := mk_ (below_step (us_ HB.out) hb)
            clear HO0_10
            clear BK238
            clear HB
            have HO0_10 := n0_
            have HO254 := n1_
            have BK238 := n2_
            have HB := n3_
            clear n0_ n1_ n2_ n3_
            clear hb ho13
            refine hK.out _ _ ⟨(blk_cell BK238.out 0).trans rfl, (blk_cell BK238.out 1).trans rfl, (blk_cell BK238.out 2).trans rfl, (blk_cell BK238.out 3).trans rfl, (blk_cell BK238.out 4).trans rfl, (blk_cell BK238.out 5).trans rfl, (blk_cell BK238.out 6).trans rfl, (blk_cell BK238.out 7).trans rfl, (blk_cell BK238.out 8).trans rfl, (blk_cell BK238.out 9).trans rfl, (blk_cell BK238.out 10).trans rfl⟩ (fun hHeld => ?_)
            clear hK K
            refine norm_ (a' := ?_) ?_ ?_
            rotate_left
            ·show Act.put _ (some 44) _ = _
             simp only [Act.put, la_, lz_, ls_, i64_w, i32_w]
             rfl
            exact norm_ (by first | (simp only [putAll, Act.put, la_, lz_, ls_]; done) | (simp only [putAll, Act.put, la_, lz_, ls_]; rfl)) (hJ22 (v253) _ ⟨hHeld, (by (with_reducible repeat (first | apply Kd.V_alloc | apply Kd.V_drewN | apply Kd.V_drew)); exact Kd.V_mono HO0_10.out (fun _ hk => by first | exact ⟨hk.1.1, ⟨hk.2, hk.1.2⟩⟩ | exact hk.1 | exact hk | exact ⟨hk.1, hk.2⟩ | exact ⟨.inr hk.1, hk.2⟩ | simp only [hk, ne_eq, not_false_eq_true, and_self])), (by (with_reducible repeat (first | apply Kd.R_alloc | apply Kd.R_drewN | apply Kd.R_drew)); exact Kd.R_mono HO254.out (fun _ hk => hk.1)), (u_ BK238.out), (us_ HB.out)⟩)
           skip
           rintro v253 w14 ⟨hS_, h0_, h1_, h2_, h3_⟩
           have n0_ : Aside0 (Kd.V (Kd.int .u8) 5 w14 w.heap.size (fun k_ => (P0_10_ k_ ∨ w.heap.size ≤ k_) ∧ some k_ ≠ (v253 : Value).ownBlock ∧ k_ ≠ gb238) (.slice A0_10 l0_10.length c0_10) l0_10) := ⟨h0_⟩
           have n1_ : Aside0 (Kd.R (Kd.int .u8) 5 w14 w.heap.size (fun k_ => (w.heap.size ≤ k_)) v253 y252) := ⟨h1_⟩
           have n2_ : Aside0 (w14.heap[gb238]? = some (.cells #[.int .i64 a0_0, .int .i64 a0_1, .int .i64 a0_2, .int .i64 a0_3, .int .i64 a0_4, .bool a0_5, .bool a0_6, .bool a0_7, .bool a0_8, .slice A0_9 l0_9.length c0_9, .slice A0_10 l0_10.length c0_10] 31 (0, 0))) := ⟨h2_⟩
           have n3_ : Aside0 (Below w.heap.size w w14) := ⟨h3_⟩
           clear HO0_10
           clear BK238
           clear HB
           clear h0_ h1_ h2_ h3_
           have HO0_10 := n0_
           have HO254 := n1_
           have BK238 := n2_
           have HB := n3_
           clear n0_ n1_ n2_ n3_
           have hHeld : w14.cell? ⟨gb238, 0, none⟩ = some (.int .i64 a0_0) ∧ w14.cell? ⟨gb238, 1, none⟩ = some (.int .i64 a0_1) ∧ w14.cell? ⟨gb238, 2, none⟩ = some (.int .i64 a0_2) ∧ w14.cell? ⟨gb238, 3, none⟩ = some (.int .i64 a0_3) ∧ w14.cell? ⟨gb238, 4, none⟩ = some (.int .i64 a0_4) ∧ w14.cell? ⟨gb238, 5, none⟩ = some (.bool a0_5) ∧ w14.cell? ⟨gb238, 6, none⟩ = some (.bool a0_6) ∧ w14.cell? ⟨gb238, 7, none⟩ = some (.bool a0_7) ∧ w14.cell? ⟨gb238, 8, none⟩ = some (.bool a0_8) ∧ w14.cell? ⟨gb238, 9, none⟩ = some (.slice A0_9 l0_9.length c0_9) ∧ w14.cell? ⟨gb238, 10, none⟩ = some (.slice A0_10 l0_10.length c0_10) := hS_
           refine norm_ (a' := ?_) ?_ ?_
           rotate_left
           ·simp only [putAll, Act.put, la_, lz_, ls_]
            rfl
           refine two_ (i := 6) (j := 9) (Ni := some 28) (Nj := some 31) #[T_, T_, T_, T_, T_, T_, T_, T_, T_, F_, T_, T_, F_, T_, T_, T_, T_, T_, T_, T_, T_, T_, T_, F_, F_, F_] #[T_, T_, T_, T_, T_, T_, F_, T_, T_, T_, T_, T_, F_, T_, T_, T_, T_, T_, T_, T_, T_, T_, T_, F_, F_, F_] rfl rfl rfl rfl (two_of HT_.out (by kernel_rfl)) (by decide) (by decide) (fun K hK => ?_) (fun K hK => ?_)
           ·skip
            refine Kd.R_lit_step (Kd.int .u8) _ 5 ?hg (N := 28) ?hd (xs := ([(a0_0) % 256, (a0_1) % 256] : List Int)) (inner := [.int .u8 ((a0_0) % 256), .int .u8 ((a0_1) % 256)]) (ok := fun _ => True) (okp := fun _ => True) ?hr ?hp (fun _ hk => hk) trivial (Below.refl _ _) (Nat.le_refl _) (by simp) ?_; (case hd => rfl); (case hg => rfl); (case hr => first | (go_simp; done) | (go_simp; rfl)); (case hp => exact (Reps.one (show Kd.M (Kd.int .u8) _ _ _ ((a0_0) % 256) [.int .u8 ((a0_0) % 256)] from rfl) (Reps.one (show Kd.M (Kd.int .u8) _ _ _ ((a0_1) % 256) [.int .u8 ((a0_1) % 256)] from rfl) (Reps.none _ _))))
            intro v244 w15 ho16 hb hg_ hnew_
            clear hg_ hnew_
            (first | rw [← Ny243.out] at ho16 | (simp only [Int.reduceToNat] at ho16; rw [← Ny243.out] at ho16))
            have n0_ := mk_ (Kd.V_elder' (by (with_reducible repeat (first | apply Kd.V_alloc | apply Kd.V_drewN | apply Kd.V_drew)); exact HO0_10.out) (Kd.R_base ho16) hb)
            have n1_ := mk_ (Kd.R_elder' (Kd.ur_ HO254.out) (Kd.R_base ho16) hb)
            have n2_ := mk_ (Kd.R_lower (Kd.R_new' (Kd.R_newM (M := fun k_ => (w.heap.size ≤ k_)) ho16 (below_size (us_ HB.out)) (fun k_ h_ => h_)) (Kd.R_lt (Kd.ur_ HO254.out))) (below_size (us_ HB.out)))
            have n3_ := mk_ (blk_below (u_ BK238.out) hb)
            have n4_ := mk_ (below_step (us_ HB.out) hb)
            clear HO0_10
            clear HO254
            clear BK238
            clear HB
            have HO0_10 := n0_
            have HO254 := n1_
            have HO245 := n2_
            have BK238 := n3_
            have HB := n4_
            clear n0_ n1_ n2_ n3_ n4_
            clear hb ho16
            refine hK.out _ _ ⟨(blk_cell BK238.out 0).trans rfl, (blk_cell BK238.out 1).trans rfl, (blk_cell BK238.out 2).trans rfl, (blk_cell BK238.out 3).trans rfl, (blk_cell BK238.out 4).trans rfl, (blk_cell BK238.out 5).trans rfl, (blk_cell BK238.out 6).trans rfl, (blk_cell BK238.out 7).trans rfl, (blk_cell BK238.out 8).trans rfl, (blk_cell BK238.out 9).trans rfl, (blk_cell BK238.out 10).trans rfl⟩ (fun hHeld => ?_)
            clear hK K
            refine norm_ (a' := ?_) ?_ ?_
            rotate_left
            ·show Act.put _ (some 28) _ = _
             simp only [Act.put, la_, lz_, ls_, i64_w, i32_w]
             rfl
            exact norm_ (by first | (simp only [putAll, Act.put, la_, lz_, ls_]; done) | (simp only [putAll, Act.put, la_, lz_, ls_]; rfl)) (hJ6_22 (v244, v253) _ ⟨hHeld, (by (with_reducible repeat (first | apply Kd.V_alloc | apply Kd.V_drewN | apply Kd.V_drew)); exact Kd.V_mono HO0_10.out (fun _ hk => by first | exact ⟨hk.1.1, ⟨hk.2, ⟨hk.1.2.1, hk.1.2.2⟩⟩⟩ | exact hk.1 | exact hk | exact ⟨hk.1, hk.2⟩ | exact ⟨.inr hk.1, hk.2⟩ | simp only [hk, ne_eq, not_false_eq_true, and_self])), (by (with_reducible repeat (first | apply Kd.R_alloc | apply Kd.R_drewN | apply Kd.R_drew)); exact Kd.R_mono HO245.out (fun _ hk => by first | exact ⟨hk.1.1, hk.2⟩ | exact hk.1 | exact hk | exact ⟨hk.1, hk.2⟩ | exact ⟨.inr hk.1, hk.2⟩ | simp only [hk, ne_eq, not_false_eq_true, and_self])), (Kd.ur_ HO254.out), (u_ BK238.out), (us_ HB.out)⟩)
           skip
           refine goes_ Try.func63 (by kernel_rfl) rfl #[.int .i64 a0_2, .int .i64 2] (by rfl) rfl rfl (by (try simp only [lm_, lo_, ln_]); first | done | rfl | (simp only [List.length_drop, List.length_take]; rfl)) ?_
           with_reducible refine (impl_bytesOf.calls k a0_2 2 t246 _ A6.out).mono ?_
           rintro e w15 ⟨v247, rfl, ho0, hb⟩
           refine ⟨_, rfl, ?_⟩
           have n0_ := mk_ (Kd.V_elder' (by (with_reducible repeat (first | apply Kd.V_alloc | apply Kd.V_drewN | apply Kd.V_drew)); exact HO0_10.out) (Kd.R_base ho0) hb)
           have n1_ := mk_ (Kd.R_elder' (Kd.ur_ HO254.out) (Kd.R_base ho0) hb)
           have n2_ := mk_ (Kd.R_lower (Kd.R_new' (Kd.R_newM (M := fun k_ => (w.heap.size ≤ k_)) ho0 (below_size (us_ HB.out)) (fun k_ h_ => h_)) (Kd.R_lt (Kd.ur_ HO254.out))) (below_size (us_ HB.out)))
           have n3_ := mk_ (blk_below (u_ BK238.out) hb)
           have n4_ := mk_ (below_step (us_ HB.out) hb)
           clear HO0_10
           clear HO254
           clear BK238
           clear HB
           have HO0_10 := n0_
           have HO254 := n1_
           have HO248 := n2_
           have BK238 := n3_
           have HB := n4_
           clear n0_ n1_ n2_ n3_ n4_
           (try clear hb)
           (try clear hb2)
           (try clear hk)
           (try clear hi)
           (try clear ho0)
           refine hK.out _ _ ⟨(blk_cell BK238.out 0).trans rfl, (blk_cell BK238.out 1).trans rfl, (blk_cell BK238.out 2).trans rfl, (blk_cell BK238.out 3).trans rfl, (blk_cell BK238.out 4).trans rfl, (blk_cell BK238.out 5).trans rfl, (blk_cell BK238.out 6).trans rfl, (blk_cell BK238.out 7).trans rfl, (blk_cell BK238.out 8).trans rfl, (blk_cell BK238.out 9).trans rfl, (blk_cell BK238.out 10).trans rfl⟩ (fun hHeld => ?_)
           clear hK K
           refine norm_ (a' := ?_) ?_ ?_
           rotate_left
           ·show Act.put _ (some 31) _ = _
            simp only [Act.put, la_, lz_, ls_, i64_w, i32_w]
            rfl
           exact norm_ (by first | (simp only [putAll, Act.put, la_, lz_, ls_]; done) | (simp only [putAll, Act.put, la_, lz_, ls_]; rfl)) (hJ9_22 (v247, v253) _ ⟨hHeld, (by (with_reducible repeat (first | apply Kd.V_alloc | apply Kd.V_drewN | apply Kd.V_drew)); exact Kd.V_mono HO0_10.out (fun _ hk => by first | exact ⟨hk.1.1, ⟨hk.2, ⟨hk.1.2.1, hk.1.2.2⟩⟩⟩ | exact hk.1 | exact hk | exact ⟨hk.1, hk.2⟩ | exact ⟨.inr hk.1, hk.2⟩ | simp only [hk, ne_eq, not_false_eq_true, and_self])), (by (with_reducible repeat (first | apply Kd.R_alloc | apply Kd.R_drewN | apply Kd.R_drew)); exact Kd.R_mono HO248.out (fun _ hk => by first | exact ⟨hk.1.1, hk.2⟩ | exact hk.1 | exact hk | exact ⟨hk.1, hk.2⟩ | exact ⟨.inr hk.1, hk.2⟩ | simp only [hk, ne_eq, not_false_eq_true, and_self])), (Kd.ur_ HO254.out), (u_ BK238.out), (us_ HB.out)⟩)
          skip
          rintro v247 w13 ⟨hS_, h0_, h1_, h2_, h3_⟩
          have n0_ : Aside0 (Kd.V (Kd.int .u8) 5 w13 w.heap.size (fun k_ => (P0_10_ k_ ∨ w.heap.size ≤ k_) ∧ some k_ ≠ (v247 : Value).ownBlock ∧ k_ ≠ gb238) (.slice A0_10 l0_10.length c0_10) l0_10) := ⟨h0_⟩
          have n1_ : Aside0 (Kd.R (Kd.int .u8) 5 w13 w.heap.size (fun k_ => (w.heap.size ≤ k_)) v247 t246) := ⟨h1_⟩
          have n2_ : Aside0 (w13.heap[gb238]? = some (.cells #[.int .i64 a0_0, .int .i64 a0_1, .int .i64 a0_2, .int .i64 a0_3, .int .i64 a0_4, .bool a0_5, .bool a0_6, .bool a0_7, .bool a0_8, .slice A0_9 l0_9.length c0_9, .slice A0_10 l0_10.length c0_10] 31 (0, 0))) := ⟨h2_⟩
          have n3_ : Aside0 (Below w.heap.size w w13) := ⟨h3_⟩
          clear HO0_10
          clear BK238
          clear HB
          clear h0_ h1_ h2_ h3_
          have HO0_10 := n0_
          have HO248 := n1_
          have BK238 := n2_
          have HB := n3_
          clear n0_ n1_ n2_ n3_
          have hHeld : w13.cell? ⟨gb238, 0, none⟩ = some (.int .i64 a0_0) ∧ w13.cell? ⟨gb238, 1, none⟩ = some (.int .i64 a0_1) ∧ w13.cell? ⟨gb238, 2, none⟩ = some (.int .i64 a0_2) ∧ w13.cell? ⟨gb238, 3, none⟩ = some (.int .i64 a0_3) ∧ w13.cell? ⟨gb238, 4, none⟩ = some (.int .i64 a0_4) ∧ w13.cell? ⟨gb238, 5, none⟩ = some (.bool a0_5) ∧ w13.cell? ⟨gb238, 6, none⟩ = some (.bool a0_6) ∧ w13.cell? ⟨gb238, 7, none⟩ = some (.bool a0_7) ∧ w13.cell? ⟨gb238, 8, none⟩ = some (.bool a0_8) ∧ w13.cell? ⟨gb238, 9, none⟩ = some (.slice A0_9 l0_9.length c0_9) ∧ w13.cell? ⟨gb238, 10, none⟩ = some (.slice A0_10 l0_10.length c0_10) := hS_
          refine norm_ (a' := ?_) ?_ ?_
          rotate_left
          ·simp only [putAll, Act.put, la_, lz_, ls_]
           rfl
          refine three_ (i := 6) (j := 12) (k := 22) (Ni := some 28) (Nj := some 34) (Nk := some 44) #[T_, T_, T_, T_, T_, T_, T_, T_, T_, T_, T_, T_, F_, T_, T_, T_, T_, T_, T_, T_, T_, T_, F_, F_, F_, F_] #[T_, T_, T_, T_, T_, T_, F_, T_, T_, T_, T_, T_, T_, T_, T_, T_, T_, T_, T_, T_, T_, T_, F_, F_, F_, F_] #[T_, T_, T_, T_, T_, T_, F_, T_, T_, T_, T_, T_, F_, T_, T_, T_, T_, T_, T_, T_, T_, T_, T_, F_, F_, F_] rfl rfl rfl rfl rfl rfl (three_of HT_.out (by kernel_rfl)) (by decide) (by decide) (by decide) (fun K hK => ?_) (fun K hK => ?_) (fun K hK => ?_)
          ·skip
           refine Kd.R_lit_step (Kd.int .u8) _ 5 ?hg (N := 28) ?hd (xs := ([(a0_0) % 256, (a0_1) % 256] : List Int)) (inner := [.int .u8 ((a0_0) % 256), .int .u8 ((a0_1) % 256)]) (ok := fun _ => True) (okp := fun _ => True) ?hr ?hp (fun _ hk => hk) trivial (Below.refl _ _) (Nat.le_refl _) (by simp) ?_; (case hd => rfl); (case hg => rfl); (case hr => first | (go_simp; done) | (go_simp; rfl)); (case hp => exact (Reps.one (show Kd.M (Kd.int .u8) _ _ _ ((a0_0) % 256) [.int .u8 ((a0_0) % 256)] from rfl) (Reps.one (show Kd.M (Kd.int .u8) _ _ _ ((a0_1) % 256) [.int .u8 ((a0_1) % 256)] from rfl) (Reps.none _ _))))
           intro v244 w14 ho15 hb hg_ hnew_
           clear hg_ hnew_
           (first | rw [← Ny243.out] at ho15 | (simp only [Int.reduceToNat] at ho15; rw [← Ny243.out] at ho15))
           have n0_ := mk_ (Kd.V_elder' (by (with_reducible repeat (first | apply Kd.V_alloc | apply Kd.V_drewN | apply Kd.V_drew)); exact HO0_10.out) (Kd.R_base ho15) hb)
           have n1_ := mk_ (Kd.R_elder' (Kd.ur_ HO248.out) (Kd.R_base ho15) hb)
           have n2_ := mk_ (Kd.R_lower (Kd.R_new' (Kd.R_newM (M := fun k_ => (w.heap.size ≤ k_)) ho15 (below_size (us_ HB.out)) (fun k_ h_ => h_)) (Kd.R_lt (Kd.ur_ HO248.out))) (below_size (us_ HB.out)))
           have n3_ := mk_ (blk_below (u_ BK238.out) hb)
           have n4_ := mk_ (below_step (us_ HB.out) hb)
           clear HO0_10
           clear HO248
           clear BK238
           clear HB
           have HO0_10 := n0_
           have HO248 := n1_
           have HO245 := n2_
           have BK238 := n3_
           have HB := n4_
           clear n0_ n1_ n2_ n3_ n4_
           clear hb ho15
           refine hK.out _ _ ⟨(blk_cell BK238.out 0).trans rfl, (blk_cell BK238.out 1).trans rfl, (blk_cell BK238.out 2).trans rfl, (blk_cell BK238.out 3).trans rfl, (blk_cell BK238.out 4).trans rfl, (blk_cell BK238.out 5).trans rfl, (blk_cell BK238.out 6).trans rfl, (blk_cell BK238.out 7).trans rfl, (blk_cell BK238.out 8).trans rfl, (blk_cell BK238.out 9).trans rfl, (blk_cell BK238.out 10).trans rfl⟩ (fun hHeld => ?_)
           clear hK K
           refine norm_ (a' := ?_) ?_ ?_
           rotate_left
           ·show Act.put _ (some 28) _ = _
            simp only [Act.put, la_, lz_, ls_, i64_w, i32_w]
            rfl
           exact norm_ (by first | (simp only [putAll, Act.put, la_, lz_, ls_]; done) | (simp only [putAll, Act.put, la_, lz_, ls_]; rfl)) (hJ6_9 (v244, v247) _ ⟨hHeld, (by (with_reducible repeat (first | apply Kd.V_alloc | apply Kd.V_drewN | apply Kd.V_drew)); exact Kd.V_mono HO0_10.out (fun _ hk => by first | exact ⟨hk.1.1, ⟨hk.2, ⟨hk.1.2.1, hk.1.2.2⟩⟩⟩ | exact hk.1 | exact hk | exact ⟨hk.1, hk.2⟩ | exact ⟨.inr hk.1, hk.2⟩ | simp only [hk, ne_eq, not_false_eq_true, and_self])), (by (with_reducible repeat (first | apply Kd.R_alloc | apply Kd.R_drewN | apply Kd.R_drew)); exact Kd.R_mono HO245.out (fun _ hk => by first | exact ⟨hk.1.1, hk.2⟩ | exact hk.1 | exact hk | exact ⟨hk.1, hk.2⟩ | exact ⟨.inr hk.1, hk.2⟩ | simp only [hk, ne_eq, not_false_eq_true, and_self])), (Kd.ur_ HO248.out), (u_ BK238.out), (us_ HB.out)⟩)
          ·skip
           refine goes_ Try.func63 (by kernel_rfl) rfl #[.int .i64 a0_3, .int .i64 2] (by rfl) rfl rfl (by (try simp only [lm_, lo_, ln_]); first | done | rfl | (simp only [List.length_drop, List.length_take]; rfl)) ?_
           with_reducible refine (impl_bytesOf.calls k a0_3 2 t249 _ A7.out).mono ?_
           rintro e w14 ⟨v250, rfl, ho0, hb⟩
           refine ⟨_, rfl, ?_⟩
           have n0_ := mk_ (Kd.V_elder' (by (with_reducible repeat (first | apply Kd.V_alloc | apply Kd.V_drewN | apply Kd.V_drew)); exact HO0_10.out) (Kd.R_base ho0) hb)
           have n1_ := mk_ (Kd.R_elder' (Kd.ur_ HO248.out) (Kd.R_base ho0) hb)
           have n2_ := mk_ (Kd.R_lower (Kd.R_new' (Kd.R_newM (M := fun k_ => (w.heap.size ≤ k_)) ho0 (below_size (us_ HB.out)) (fun k_ h_ => h_)) (Kd.R_lt (Kd.ur_ HO248.out))) (below_size (us_ HB.out)))
           have n3_ := mk_ (blk_below (u_ BK238.out) hb)
           have n4_ := mk_ (below_step (us_ HB.out) hb)
           clear HO0_10
           clear HO248
           clear BK238
           clear HB
           have HO0_10 := n0_
           have HO248 := n1_
           have HO251 := n2_
           have BK238 := n3_
           have HB := n4_
           clear n0_ n1_ n2_ n3_ n4_
           (try clear hb)
           (try clear hb2)
           (try clear hk)
           (try clear hi)
           (try clear ho0)
           refine hK.out _ _ ⟨(blk_cell BK238.out 0).trans rfl, (blk_cell BK238.out 1).trans rfl, (blk_cell BK238.out 2).trans rfl, (blk_cell BK238.out 3).trans rfl, (blk_cell BK238.out 4).trans rfl, (blk_cell BK238.out 5).trans rfl, (blk_cell BK238.out 6).trans rfl, (blk_cell BK238.out 7).trans rfl, (blk_cell BK238.out 8).trans rfl, (blk_cell BK238.out 9).trans rfl, (blk_cell BK238.out 10).trans rfl⟩ (fun hHeld => ?_)
           clear hK K
           refine norm_ (a' := ?_) ?_ ?_
           rotate_left
           ·show Act.put _ (some 34) _ = _
            simp only [Act.put, la_, lz_, ls_, i64_w, i32_w]
            rfl
           exact norm_ (by first | (simp only [putAll, Act.put, la_, lz_, ls_]; done) | (simp only [putAll, Act.put, la_, lz_, ls_]; rfl)) (hJ9_12 (v247, v250) _ ⟨hHeld, (by (with_reducible repeat (first | apply Kd.V_alloc | apply Kd.V_drewN | apply Kd.V_drew)); exact Kd.V_mono HO0_10.out (fun _ hk => by first | exact ⟨hk.1.1, ⟨hk.1.2.1, ⟨hk.2, hk.1.2.2⟩⟩⟩ | exact hk.1 | exact hk | exact ⟨hk.1, hk.2⟩ | exact ⟨.inr hk.1, hk.2⟩ | simp only [hk, ne_eq, not_false_eq_true, and_self])), (Kd.ur_ HO248.out), (by (with_reducible repeat (first | apply Kd.R_alloc | apply Kd.R_drewN | apply Kd.R_drew)); exact Kd.R_mono HO251.out (fun _ hk => by first | exact ⟨hk.1.1, hk.2⟩ | exact hk.1 | exact hk | exact ⟨hk.1, hk.2⟩ | exact ⟨.inr hk.1, hk.2⟩ | simp only [hk, ne_eq, not_false_eq_true, and_self])), (u_ BK238.out), (us_ HB.out)⟩)
          skip
          refine Kd.R_lit_step (Kd.int .u8) _ 5 ?hg (N := 44) ?hd (xs := ([(a0_4) % 256, (wrap64 ((wrap64 ((wrap64 (t239 + t240)) + t241)) + t242)) % 256, ((l0_9.length : Int)) % 256] : List Int)) (inner := [.int .u8 ((a0_4) % 256), .int .u8 ((wrap64 ((wrap64 ((wrap64 (t239 + t240)) + t241)) + t242)) % 256), .int .u8 (((l0_9.length : Int)) % 256)]) (ok := fun _ => True) (okp := fun _ => True) ?hr ?hp (fun _ hk => hk) trivial (Below.refl _ _) (Nat.le_refl _) (by simp) ?_; (case hd => rfl); (case hg => rfl); (case hr => first | (go_simp; done) | (go_simp; rfl)); (case hp => exact (Reps.one (show Kd.M (Kd.int .u8) _ _ _ ((a0_4) % 256) [.int .u8 ((a0_4) % 256)] from rfl) (Reps.one (show Kd.M (Kd.int .u8) _ _ _ ((wrap64 ((wrap64 ((wrap64 (t239 + t240)) + t241)) + t242)) % 256) [.int .u8 ((wrap64 ((wrap64 ((wrap64 (t239 + t240)) + t241)) + t242)) % 256)] from rfl) (Reps.one (show Kd.M (Kd.int .u8) _ _ _ (((l0_9.length : Int)) % 256) [.int .u8 (((l0_9.length : Int)) % 256)] from rfl) (Reps.none _ _)))))
          intro v253 w14 ho15 hb hg_ hnew_
          clear hg_ hnew_
          (first | rw [← Ny252.out] at ho15 | (simp only [Int.reduceToNat] at ho15; rw [← Ny252.out] at ho15))
          have n0_ := mk_ (Kd.V_elder' (by (with_reducible repeat (first | apply Kd.V_alloc | apply Kd.V_drewN | apply Kd.V_drew)); exact HO0_10.out) (Kd.R_base ho15) hb)
          have n1_ := mk_ (Kd.R_elder' (Kd.ur_ HO248.out) (Kd.R_base ho15) hb)
          have n2_ := mk_ (Kd.R_lower (Kd.R_new' (Kd.R_newM (M := fun k_ => (w.heap.size ≤ k_)) ho15 (below_size (us_ HB.out)) (fun k_ h_ => h_)) (Kd.R_lt (Kd.ur_ HO248.out))) (below_size (us_ HB.out)))
          have n3_ := mk_ (blk_below (u_ BK238.out) hb)
          have n4_ := mk_ (below_step (us_ HB.out) hb)
          clear HO0_10
          clear HO248
          clear BK238
          clear HB
          have HO0_10 := n0_
          have HO248 := n1_
          have HO254 := n2_
          have BK238 := n3_
          have HB := n4_
          clear n0_ n1_ n2_ n3_ n4_
          clear hb ho15
          refine hK.out _ _ ⟨(blk_cell BK238.out 0).trans rfl, (blk_cell BK238.out 1).trans rfl, (blk_cell BK238.out 2).trans rfl, (blk_cell BK238.out 3).trans rfl, (blk_cell BK238.out 4).trans rfl, (blk_cell BK238.out 5).trans rfl, (blk_cell BK238.out 6).trans rfl, (blk_cell BK238.out 7).trans rfl, (blk_cell BK238.out 8).trans rfl, (blk_cell BK238.out 9).trans rfl, (blk_cell BK238.out 10).trans rfl⟩ (fun hHeld => ?_)
          clear hK K
          refine norm_ (a' := ?_) ?_ ?_
          rotate_left
          ·show Act.put _ (some 44) _ = _
           simp only [Act.put, la_, lz_, ls_, i64_w, i32_w]
           rfl
          exact norm_ (by first | (simp only [putAll, Act.put, la_, lz_, ls_]; done) | (simp only [putAll, Act.put, la_, lz_, ls_]; rfl)) (hJ9_22 (v247, v253) _ ⟨hHeld, (by (with_reducible repeat (first | apply Kd.V_alloc | apply Kd.V_drewN | apply Kd.V_drew)); exact Kd.V_mono HO0_10.out (fun _ hk => by first | exact ⟨hk.1.1, ⟨hk.1.2.1, ⟨hk.2, hk.1.2.2⟩⟩⟩ | exact hk.1 | exact hk | exact ⟨hk.1, hk.2⟩ | exact ⟨.inr hk.1, hk.2⟩ | simp only [hk, ne_eq, not_false_eq_true, and_self])), (Kd.ur_ HO248.out), (by (with_reducible repeat (first | apply Kd.R_alloc | apply Kd.R_drewN | apply Kd.R_drew)); exact Kd.R_mono HO254.out (fun _ hk => by first | exact ⟨hk.1.1, hk.2⟩ | exact hk.1 | exact hk | exact ⟨hk.1, hk.2⟩ | exact ⟨.inr hk.1, hk.2⟩ | simp only [hk, ne_eq, not_false_eq_true, and_self])), (u_ BK238.out), (us_ HB.out)⟩)
         skip
         rintro v244 w14 ⟨hS_, h0_, h1_, h2_, h3_⟩
         have n0_ : Aside0 (Kd.V (Kd.int .u8) 5 w14 w.heap.size (fun k_ => (P0_10_ k_ ∨ w.heap.size ≤ k_) ∧ some k_ ≠ (v244 : Value).ownBlock ∧ k_ ≠ gb238) (.slice A0_10 l0_10.length c0_10) l0_10) := ⟨h0_⟩
         have n1_ : Aside0 (Kd.R (Kd.int .u8) 5 w14 w.heap.size (fun k_ => (w.heap.size ≤ k_)) v244 y243) := ⟨h1_⟩
         have n2_ : Aside0 (w14.heap[gb238]? = some (.cells #[.int .i64 a0_0, .int .i64 a0_1, .int .i64 a0_2, .int .i64 a0_3, .int .i64 a0_4, .bool a0_5, .bool a0_6, .bool a0_7, .bool a0_8, .slice A0_9 l0_9.length c0_9, .slice A0_10 l0_10.length c0_10] 31 (0, 0))) := ⟨h2_⟩
         have n3_ : Aside0 (Below w.heap.size w w14) := ⟨h3_⟩
         clear HO0_10
         clear BK238
         clear HB
         clear h0_ h1_ h2_ h3_
         have HO0_10 := n0_
         have HO245 := n1_
         have BK238 := n2_
         have HB := n3_
         clear n0_ n1_ n2_ n3_
         have hHeld : w14.cell? ⟨gb238, 0, none⟩ = some (.int .i64 a0_0) ∧ w14.cell? ⟨gb238, 1, none⟩ = some (.int .i64 a0_1) ∧ w14.cell? ⟨gb238, 2, none⟩ = some (.int .i64 a0_2) ∧ w14.cell? ⟨gb238, 3, none⟩ = some (.int .i64 a0_3) ∧ w14.cell? ⟨gb238, 4, none⟩ = some (.int .i64 a0_4) ∧ w14.cell? ⟨gb238, 5, none⟩ = some (.bool a0_5) ∧ w14.cell? ⟨gb238, 6, none⟩ = some (.bool a0_6) ∧ w14.cell? ⟨gb238, 7, none⟩ = some (.bool a0_7) ∧ w14.cell? ⟨gb238, 8, none⟩ = some (.bool a0_8) ∧ w14.cell? ⟨gb238, 9, none⟩ = some (.slice A0_9 l0_9.length c0_9) ∧ w14.cell? ⟨gb238, 10, none⟩ = some (.slice A0_10 l0_10.length c0_10) := hS_
         refine norm_ (a' := ?_) ?_ ?_
         rotate_left
         ·simp only [putAll, Act.put, la_, lz_, ls_]
          rfl
         refine two_ (i := 9) (j := 22) (Ni := some 31) (Nj := some 44) #[T_, T_, T_, T_, T_, T_, T_, T_, T_, T_, T_, T_, F_, T_, T_, T_, T_, T_, T_, T_, T_, T_, F_, F_, F_, F_] #[T_, T_, T_, T_, T_, T_, T_, T_, T_, F_, T_, T_, F_, T_, T_, T_, T_, T_, T_, T_, T_, T_, T_, F_, F_, F_] rfl rfl rfl rfl (two_of HT_.out (by kernel_rfl)) (by decide) (by decide) (fun K hK => ?_) (fun K hK => ?_)
         ·skip
          refine goes_ Try.func63 (by kernel_rfl) rfl #[.int .i64 a0_2, .int .i64 2] (by rfl) rfl rfl (by (try simp only [lm_, lo_, ln_]); first | done | rfl | (simp only [List.length_drop, List.length_take]; rfl)) ?_
          with_reducible refine (impl_bytesOf.calls k a0_2 2 t246 _ A6.out).mono ?_
          rintro e w15 ⟨v247, rfl, ho0, hb⟩
          refine ⟨_, rfl, ?_⟩
          have n0_ := mk_ (Kd.V_elder' (by (with_reducible repeat (first | apply Kd.V_alloc | apply Kd.V_drewN | apply Kd.V_drew)); exact HO0_10.out) (Kd.R_base ho0) hb)
          have n1_ := mk_ (Kd.R_elder' (Kd.ur_ HO245.out) (Kd.R_base ho0) hb)
          have n2_ := mk_ (Kd.R_lower (Kd.R_new' (Kd.R_newM (M := fun k_ => (w.heap.size ≤ k_)) ho0 (below_size (us_ HB.out)) (fun k_ h_ => h_)) (Kd.R_lt (Kd.ur_ HO245.out))) (below_size (us_ HB.out)))
          have n3_ := mk_ (blk_below (u_ BK238.out) hb)
          have n4_ := mk_ (below_step (us_ HB.out) hb)
          clear HO0_10
          clear HO245
          clear BK238
          clear HB
          have HO0_10 := n0_
          have HO245 := n1_
          have HO248 := n2_
          have BK238 := n3_
          have HB := n4_
          clear n0_ n1_ n2_ n3_ n4_
          (try clear hb)
          (try clear hb2)
          (try clear hk)
          (try clear hi)
          (try clear ho0)
          refine hK.out _ _ ⟨(blk_cell BK238.out 0).trans rfl, (blk_cell BK238.out 1).trans rfl, (blk_cell BK238.out 2).trans rfl, (blk_cell BK238.out 3).trans rfl, (blk_cell BK238.out 4).trans rfl, (blk_cell BK238.out 5).trans rfl, (blk_cell BK238.out 6).trans rfl, (blk_cell BK238.out 7).trans rfl, (blk_cell BK238.out 8).trans rfl, (blk_cell BK238.out 9).trans rfl, (blk_cell BK238.out 10).trans rfl⟩ (fun hHeld => ?_)
          clear hK K
          refine norm_ (a' := ?_) ?_ ?_
          rotate_left
          ·show Act.put _ (some 31) _ = _
           simp only [Act.put, la_, lz_, ls_, i64_w, i32_w]
           rfl
          exact norm_ (by first | (simp only [putAll, Act.put, la_, lz_, ls_]; done) | (simp only [putAll, Act.put, la_, lz_, ls_]; rfl)) (hJ6_9 (v244, v247) _ ⟨hHeld, (by (with_reducible repeat (first | apply Kd.V_alloc | apply Kd.V_drewN | apply Kd.V_drew)); exact Kd.V_mono HO0_10.out (fun _ hk => by first | exact ⟨hk.1.1, ⟨hk.1.2.1, ⟨hk.2, hk.1.2.2⟩⟩⟩ | exact hk.1 | exact hk | exact ⟨hk.1, hk.2⟩ | exact ⟨.inr hk.1, hk.2⟩ | simp only [hk, ne_eq, not_false_eq_true, and_self])), (Kd.ur_ HO245.out), (by (with_reducible repeat (first | apply Kd.R_alloc | apply Kd.R_drewN | apply Kd.R_drew)); exact Kd.R_mono HO248.out (fun _ hk => by first | exact ⟨hk.1.1, hk.2⟩ | exact hk.1 | exact hk | exact ⟨hk.1, hk.2⟩ | exact ⟨.inr hk.1, hk.2⟩ | simp only [hk, ne_eq, not_false_eq_true, and_self])), (u_ BK238.out), (us_ HB.out)⟩)
         skip
         refine Kd.R_lit_step (Kd.int .u8) _ 5 ?hg (N := 44) ?hd (xs := ([(a0_4) % 256, (wrap64 ((wrap64 ((wrap64 (t239 + t240)) + t241)) + t242)) % 256, ((l0_9.length : Int)) % 256] : List Int)) (inner := [.int .u8 ((a0_4) % 256), .int .u8 ((wrap64 ((wrap64 ((wrap64 (t239 + t240)) + t241)) + t242)) % 256), .int .u8 (((l0_9.length : Int)) % 256)]) (ok := fun _ => True) (okp := fun _ => True) ?hr ?hp (fun _ hk => hk) trivial (Below.refl _ _) (Nat.le_refl _) (by simp) ?_; (case hd => rfl); (case hg => rfl); (case hr => first | (go_simp; done) | (go_simp; rfl)); (case hp => exact (Reps.one (show Kd.M (Kd.int .u8) _ _ _ ((a0_4) % 256) [.int .u8 ((a0_4) % 256)] from rfl) (Reps.one (show Kd.M (Kd.int .u8) _ _ _ ((wrap64 ((wrap64 ((wrap64 (t239 + t240)) + t241)) + t242)) % 256) [.int .u8 ((wrap64 ((wrap64 ((wrap64 (t239 + t240)) + t241)) + t242)) % 256)] from rfl) (Reps.one (show Kd.M (Kd.int .u8) _ _ _ (((l0_9.length : Int)) % 256) [.int .u8 (((l0_9.length : Int)) % 256)] from rfl) (Reps.none _ _)))))
         intro v253 w15 ho16 hb hg_ hnew_
         clear hg_ hnew_
         (first | rw [← Ny252.out] at ho16 | (simp only [Int.reduceToNat] at ho16; rw [← Ny252.out] at ho16))
         have n0_ := mk_ (Kd.V_elder' (by (with_reducible repeat (first | apply Kd.V_alloc | apply Kd.V_drewN | apply Kd.V_drew)); exact HO0_10.out) (Kd.R_base ho16) hb)
         have n1_ := mk_ (Kd.R_elder' (Kd.ur_ HO245.out) (Kd.R_base ho16) hb)
         have n2_ := mk_ (Kd.R_lower (Kd.R_new' (Kd.R_newM (M := fun k_ => (w.heap.size ≤ k_)) ho16 (below_size (us_ HB.out)) (fun k_ h_ => h_)) (Kd.R_lt (Kd.ur_ HO245.out))) (below_size (us_ HB.out)))
         have n3_ := mk_ (blk_below (u_ BK238.out) hb)
         have n4_ := mk_ (below_step (us_ HB.out) hb)
         clear HO0_10
         clear HO245
         clear BK238
         clear HB
         have HO0_10 := n0_
         have HO245 := n1_
         have HO254 := n2_
         have BK238 := n3_
         have HB := n4_
         clear n0_ n1_ n2_ n3_ n4_
         clear hb ho16
         refine hK.out _ _ ⟨(blk_cell BK238.out 0).trans rfl, (blk_cell BK238.out 1).trans rfl, (blk_cell BK238.out 2).trans rfl, (blk_cell BK238.out 3).trans rfl, (blk_cell BK238.out 4).trans rfl, (blk_cell BK238.out 5).trans rfl, (blk_cell BK238.out 6).trans rfl, (blk_cell BK238.out 7).trans rfl, (blk_cell BK238.out 8).trans rfl, (blk_cell BK238.out 9).trans rfl, (blk_cell BK238.out 10).trans rfl⟩ (fun hHeld => ?_)
         clear hK K
         refine norm_ (a' := ?_) ?_ ?_
         rotate_left
         ·show Act.put _ (some 44) _ = _
          simp only [Act.put, la_, lz_, ls_, i64_w, i32_w]
          rfl
         exact norm_ (by first | (simp only [putAll, Act.put, la_, lz_, ls_]; done) | (simp only [putAll, Act.put, la_, lz_, ls_]; rfl)) (hJ6_22 (v244, v253) _ ⟨hHeld, (by (with_reducible repeat (first | apply Kd.V_alloc | apply Kd.V_drewN | apply Kd.V_drew)); exact Kd.V_mono HO0_10.out (fun _ hk => by first | exact ⟨hk.1.1, ⟨hk.1.2.1, ⟨hk.2, hk.1.2.2⟩⟩⟩ | exact hk.1 | exact hk | exact ⟨hk.1, hk.2⟩ | exact ⟨.inr hk.1, hk.2⟩ | simp only [hk, ne_eq, not_false_eq_true, and_self])), (Kd.ur_ HO245.out), (by (with_reducible repeat (first | apply Kd.R_alloc | apply Kd.R_drewN | apply Kd.R_drew)); exact Kd.R_mono HO254.out (fun _ hk => by first | exact ⟨hk.1.1, hk.2⟩ | exact hk.1 | exact hk | exact ⟨hk.1, hk.2⟩ | exact ⟨.inr hk.1, hk.2⟩ | simp only [hk, ne_eq, not_false_eq_true, and_self])), (u_ BK238.out), (us_ HB.out)⟩)
        skip
        rintro ⟨v247, v253⟩ w15 ⟨hS_, h0_, h1_, h2_, h3_, h4_⟩
        have n0_ : Aside0 (Kd.V (Kd.int .u8) 5 w15 w.heap.size (fun k_ => (P0_10_ k_ ∨ w.heap.size ≤ k_) ∧ some k_ ≠ (v247 : Value).ownBlock ∧ some k_ ≠ (v253 : Value).ownBlock ∧ k_ ≠ gb238) (.slice A0_10 l0_10.length c0_10) l0_10) := ⟨h0_⟩
        have n1_ : Aside0 (Kd.R (Kd.int .u8) 5 w15 w.heap.size (fun k_ => (w.heap.size ≤ k_) ∧ some k_ ≠ (v253 : Value).ownBlock) v247 t246) := ⟨h1_⟩
        have n2_ : Aside0 (Kd.R (Kd.int .u8) 5 w15 w.heap.size (fun k_ => (w.heap.size ≤ k_) ∧ some k_ ≠ (v247 : Value).ownBlock) v253 y252) := ⟨h2_⟩
        have n3_ : Aside0 (w15.heap[gb238]? = some (.cells #[.int .i64 a0_0, .int .i64 a0_1, .int .i64 a0_2, .int .i64 a0_3, .int .i64 a0_4, .bool a0_5, .bool a0_6, .bool a0_7, .bool a0_8, .slice A0_9 l0_9.length c0_9, .slice A0_10 l0_10.length c0_10] 31 (0, 0))) := ⟨h3_⟩
        have n4_ : Aside0 (Below w.heap.size w w15) := ⟨h4_⟩
        clear HO0_10
        clear BK238
        clear HB
        clear h0_ h1_ h2_ h3_ h4_
        have HO0_10 := n0_
        have HO248 := n1_
        have HO254 := n2_
        have BK238 := n3_
        have HB := n4_
        clear n0_ n1_ n2_ n3_ n4_
        have hHeld : w15.cell? ⟨gb238, 0, none⟩ = some (.int .i64 a0_0) ∧ w15.cell? ⟨gb238, 1, none⟩ = some (.int .i64 a0_1) ∧ w15.cell? ⟨gb238, 2, none⟩ = some (.int .i64 a0_2) ∧ w15.cell? ⟨gb238, 3, none⟩ = some (.int .i64 a0_3) ∧ w15.cell? ⟨gb238, 4, none⟩ = some (.int .i64 a0_4) ∧ w15.cell? ⟨gb238, 5, none⟩ = some (.bool a0_5) ∧ w15.cell? ⟨gb238, 6, none⟩ = some (.bool a0_6) ∧ w15.cell? ⟨gb238, 7, none⟩ = some (.bool a0_7) ∧ w15.cell? ⟨gb238, 8, none⟩ = some (.bool a0_8) ∧ w15.cell? ⟨gb238, 9, none⟩ = some (.slice A0_9 l0_9.length c0_9) ∧ w15.cell? ⟨gb238, 10, none⟩ = some (.slice A0_10 l0_10.length c0_10) := hS_
        refine norm_ (a' := ?_) ?_ ?_
        rotate_left
        ·simp only [putAll, Act.put, la_, lz_, ls_]
         rfl
        refine two_ (i := 6) (j := 12) (Ni := some 28) (Nj := some 34) #[T_, T_, T_, T_, T_, T_, T_, T_, T_, T_, T_, T_, F_, T_, T_, T_, T_, T_, T_, T_, T_, T_, T_, F_, F_, F_] #[T_, T_, T_, T_, T_, T_, F_, T_, T_, T_, T_, T_, T_, T_, T_, T_, T_, T_, T_, T_, T_, T_, T_, F_, F_, F_] rfl rfl rfl rfl (two_of HT_.out (by kernel_rfl)) (by decide) (by decide) (fun K hK => ?_) (fun K hK => ?_)
        ·skip
         refine Kd.R_lit_step (Kd.int .u8) _ 5 ?hg (N := 28) ?hd (xs := ([(a0_0) % 256, (a0_1) % 256] : List Int)) (inner := [.int .u8 ((a0_0) % 256), .int .u8 ((a0_1) % 256)]) (ok := fun _ => True) (okp := fun _ => True) ?hr ?hp (fun _ hk => hk) trivial (Below.refl _ _) (Nat.le_refl _) (by simp) ?_; (case hd => rfl); (case hg => rfl); (case hr => first | (go_simp; done) | (go_simp; rfl)); (case hp => exact (Reps.one (show Kd.M (Kd.int .u8) _ _ _ ((a0_0) % 256) [.int .u8 ((a0_0) % 256)] from rfl) (Reps.one (show Kd.M (Kd.int .u8) _ _ _ ((a0_1) % 256) [.int .u8 ((a0_1) % 256)] from rfl) (Reps.none _ _))))
         intro v244 w16 ho17 hb hg_ hnew_
         clear hg_ hnew_
         (first | rw [← Ny243.out] at ho17 | (simp only [Int.reduceToNat] at ho17; rw [← Ny243.out] at ho17))
         have n0_ := mk_ (Kd.V_elder' (by (with_reducible repeat (first | apply Kd.V_alloc | apply Kd.V_drewN | apply Kd.V_drew)); exact HO0_10.out) (Kd.R_base ho17) hb)
         have n1_ := mk_ (Kd.R_elder' (Kd.ur_ HO248.out) (Kd.R_base ho17) hb)
         have n2_ := mk_ (Kd.R_elder' (Kd.ur_ HO254.out) (Kd.R_base ho17) hb)
         have n3_ := mk_ (Kd.R_lower (Kd.R_new' (Kd.R_new' (Kd.R_newM (M := fun k_ => (w.heap.size ≤ k_)) ho17 (below_size (us_ HB.out)) (fun k_ h_ => h_)) (Kd.R_lt (Kd.ur_ HO248.out))) (Kd.R_lt (Kd.ur_ HO254.out))) (below_size (us_ HB.out)))
         have n4_ := mk_ (blk_below (u_ BK238.out) hb)
         have n5_ := mk_ (below_step (us_ HB.out) hb)
         clear HO0_10
         clear HO248
         clear HO254
         clear BK238
         clear HB
         have HO0_10 := n0_
         have HO248 := n1_
         have HO254 := n2_
         have HO245 := n3_
         have BK238 := n4_
         have HB := n5_
         clear n0_ n1_ n2_ n3_ n4_ n5_
         clear hb ho17
         refine hK.out _ _ ⟨(blk_cell BK238.out 0).trans rfl, (blk_cell BK238.out 1).trans rfl, (blk_cell BK238.out 2).trans rfl, (blk_cell BK238.out 3).trans rfl, (blk_cell BK238.out 4).trans rfl, (blk_cell BK238.out 5).trans rfl, (blk_cell BK238.out 6).trans rfl, (blk_cell BK238.out 7).trans rfl, (blk_cell BK238.out 8).trans rfl, (blk_cell BK238.out 9).trans rfl, (blk_cell BK238.out 10).trans rfl⟩ (fun hHeld => ?_)
         clear hK K
         refine norm_ (a' := ?_) ?_ ?_
         rotate_left
         ·show Act.put _ (some 28) _ = _
          simp only [Act.put, la_, lz_, ls_, i64_w, i32_w]
          rfl
         exact norm_ (by first | (simp only [putAll, Act.put, la_, lz_, ls_]; done) | (simp only [putAll, Act.put, la_, lz_, ls_]; rfl)) (hJ6_9_22 (v244, v247, v253) _ ⟨hHeld, (by (with_reducible repeat (first | apply Kd.V_alloc | apply Kd.V_drewN | apply Kd.V_drew)); exact Kd.V_mono HO0_10.out (fun _ hk => by first | exact ⟨hk.1.1, ⟨hk.2, ⟨hk.1.2.1, ⟨hk.1.2.2.1, hk.1.2.2.2⟩⟩⟩⟩ | exact hk.1 | exact hk | exact ⟨hk.1, hk.2⟩ | exact ⟨.inr hk.1, hk.2⟩ | simp only [hk, ne_eq, not_false_eq_true, and_self])), (by (with_reducible repeat (first | apply Kd.R_alloc | apply Kd.R_drewN | apply Kd.R_drew)); exact Kd.R_mono HO245.out (fun _ hk => by first | exact ⟨hk.1.1.1, ⟨hk.1.2, hk.2⟩⟩ | exact hk.1 | exact hk | exact ⟨hk.1, hk.2⟩ | exact ⟨.inr hk.1, hk.2⟩ | simp only [hk, ne_eq, not_false_eq_true, and_self])), (by (with_reducible repeat (first | apply Kd.R_alloc | apply Kd.R_drewN | apply Kd.R_drew)); exact Kd.R_mono HO248.out (fun _ hk => by first | exact ⟨hk.1.1, ⟨hk.2, hk.1.2⟩⟩ | exact hk.1 | exact hk | exact ⟨hk.1, hk.2⟩ | exact ⟨.inr hk.1, hk.2⟩ | simp only [hk, ne_eq, not_false_eq_true, and_self])), (by (with_reducible repeat (first | apply Kd.R_alloc | apply Kd.R_drewN | apply Kd.R_drew)); exact Kd.R_mono HO254.out (fun _ hk => by first | exact ⟨hk.1.1, ⟨hk.2, hk.1.2⟩⟩ | exact hk.1 | exact hk | exact ⟨hk.1, hk.2⟩ | exact ⟨.inr hk.1, hk.2⟩ | simp only [hk, ne_eq, not_false_eq_true, and_self])), (u_ BK238.out), (us_ HB.out)⟩)
        skip
        refine goes_ Try.func63 (by kernel_rfl) rfl #[.int .i64 a0_3, .int .i64 2] (by rfl) rfl rfl (by (try simp only [lm_, lo_, ln_]); first | done | rfl | (simp only [List.length_drop, List.length_take]; rfl)) ?_
        with_reducible refine (impl_bytesOf.calls k a0_3 2 t249 _ A7.out).mono ?_
        rintro e w16 ⟨v250, rfl, ho0, hb⟩
        refine ⟨_, rfl, ?_⟩
        have n0_ := mk_ (Kd.V_elder' (by (with_reducible repeat (first | apply Kd.V_alloc | apply Kd.V_drewN | apply Kd.V_drew)); exact HO0_10.out) (Kd.R_base ho0) hb)
        have n1_ := mk_ (Kd.R_elder' (Kd.ur_ HO248.out) (Kd.R_base ho0) hb)
        have n2_ := mk_ (Kd.R_elder' (Kd.ur_ HO254.out) (Kd.R_base ho0) hb)
        have n3_ := mk_ (Kd.R_lower (Kd.R_new' (Kd.R_new' (Kd.R_newM (M := fun k_ => (w.heap.size ≤ k_)) ho0 (below_size (us_ HB.out)) (fun k_ h_ => h_)) (Kd.R_lt (Kd.ur_ HO248.out))) (Kd.R_lt (Kd.ur_ HO254.out))) (below_size (us_ HB.out)))
        have n4_ := mk_ (blk_below (u_ BK238.out) hb)
        have n5_ := mk_ (below_step (us_ HB.out) hb)
        clear HO0_10
        clear HO248
        clear HO254
        clear BK238
        clear HB
        have HO0_10 := n0_
        have HO248 := n1_
        have HO254 := n2_
        have HO251 := n3_
        have BK238 := n4_
        have HB := n5_
        clear n0_ n1_ n2_ n3_ n4_ n5_
        (try clear hb)
        (try clear hb2)
        (try clear hk)
        (try clear hi)
        (try clear ho0)
        refine hK.out _ _ ⟨(blk_cell BK238.out 0).trans rfl, (blk_cell BK238.out 1).trans rfl, (blk_cell BK238.out 2).trans rfl, (blk_cell BK238.out 3).trans rfl, (blk_cell BK238.out 4).trans rfl, (blk_cell BK238.out 5).trans rfl, (blk_cell BK238.out 6).trans rfl, (blk_cell BK238.out 7).trans rfl, (blk_cell BK238.out 8).trans rfl, (blk_cell BK238.out 9).trans rfl, (blk_cell BK238.out 10).trans rfl⟩ (fun hHeld => ?_)
        clear hK K
        refine norm_ (a' := ?_) ?_ ?_
        rotate_left
        ·show Act.put _ (some 34) _ = _
         simp only [Act.put, la_, lz_, ls_, i64_w, i32_w]
         rfl
        exact norm_ (by first | (simp only [putAll, Act.put, la_, lz_, ls_]; done) | (simp only [putAll, Act.put, la_, lz_, ls_]; rfl)) (hJ9_12_22 (v247, v250, v253) _ ⟨hHeld, (by (with_reducible repeat (first | apply Kd.V_alloc | apply Kd.V_drewN | apply Kd.V_drew)); exact Kd.V_mono HO0_10.out (fun _ hk => by first | exact ⟨hk.1.1, ⟨hk.1.2.1, ⟨hk.2, ⟨hk.1.2.2.1, hk.1.2.2.2⟩⟩⟩⟩ | exact hk.1 | exact hk | exact ⟨hk.1, hk.2⟩ | exact ⟨.inr hk.1, hk.2⟩ | simp only [hk, ne_eq, not_false_eq_true, and_self])), (by (with_reducible repeat (first | apply Kd.R_alloc | apply Kd.R_drewN | apply Kd.R_drew)); exact Kd.R_mono HO248.out (fun _ hk => by first | exact ⟨hk.1.1, ⟨hk.2, hk.1.2⟩⟩ | exact hk.1 | exact hk | exact ⟨hk.1, hk.2⟩ | exact ⟨.inr hk.1, hk.2⟩ | simp only [hk, ne_eq, not_false_eq_true, and_self])), (by (with_reducible repeat (first | apply Kd.R_alloc | apply Kd.R_drewN | apply Kd.R_drew)); exact Kd.R_mono HO251.out (fun _ hk => by first | exact ⟨hk.1.1.1, ⟨hk.1.2, hk.2⟩⟩ | exact hk.1 | exact hk | exact ⟨hk.1, hk.2⟩ | exact ⟨.inr hk.1, hk.2⟩ | simp only [hk, ne_eq, not_false_eq_true, and_self])), (by (with_reducible repeat (first | apply Kd.R_alloc | apply Kd.R_drewN | apply Kd.R_drew)); exact Kd.R_mono HO254.out (fun _ hk => by first | exact ⟨hk.1.1, ⟨hk.1.2, hk.2⟩⟩ | exact hk.1 | exact hk | exact ⟨hk.1, hk.2⟩ | exact ⟨.inr hk.1, hk.2⟩ | simp only [hk, ne_eq, not_false_eq_true, and_self])), (u_ BK238.out), (us_ HB.out)⟩)
       skip
       rintro ⟨v247, v250⟩ w14 ⟨hS_, h0_, h1_, h2_, h3_, h4_⟩
       have n0_ : Aside0 (Kd.V (Kd.int .u8) 5 w14 w.heap.size (fun k_ => (P0_10_ k_ ∨ w.heap.size ≤ k_) ∧ some k_ ≠ (v247 : Value).ownBlock ∧ some k_ ≠ (v250 : Value).ownBlock ∧ k_ ≠ gb238) (.slice A0_10 l0_10.length c0_10) l0_10) := ⟨h0_⟩
       have n1_ : Aside0 (Kd.R (Kd.int .u8) 5 w14 w.heap.size (fun k_ => (w.heap.size ≤ k_) ∧ some k_ ≠ (v250 : Value).ownBlock) v247 t246) := ⟨h1_⟩
       have n2_ : Aside0 (Kd.R (Kd.int .u8) 5 w14 w.heap.size (fun k_ => (w.heap.size ≤ k_) ∧ some k_ ≠ (v247 : Value).ownBlock) v250 t249) := ⟨h2_⟩
       have n3_ : Aside0 (w14.heap[gb238]? = some (.cells #[.int .i64 a0_0, .int .i64 a0_1, .int .i64 a0_2, .int .i64 a0_3, .int .i64 a0_4, .bool a0_5, .bool a0_6, .bool a0_7, .bool a0_8, .slice A0_9 l0_9.length c0_9, .slice A0_10 l0_10.length c0_10] 31 (0, 0))) := ⟨h3_⟩
       have n4_ : Aside0 (Below w.heap.size w w14) := ⟨h4_⟩
       clear HO0_10
       clear BK238
       clear HB
       clear h0_ h1_ h2_ h3_ h4_
       have HO0_10 := n0_
       have HO248 := n1_
       have HO251 := n2_
       have BK238 := n3_
       have HB := n4_
       clear n0_ n1_ n2_ n3_ n4_
       have hHeld : w14.cell? ⟨gb238, 0, none⟩ = some (.int .i64 a0_0) ∧ w14.cell? ⟨gb238, 1, none⟩ = some (.int .i64 a0_1) ∧ w14.cell? ⟨gb238, 2, none⟩ = some (.int .i64 a0_2) ∧ w14.cell? ⟨gb238, 3, none⟩ = some (.int .i64 a0_3) ∧ w14.cell? ⟨gb238, 4, none⟩ = some (.int .i64 a0_4) ∧ w14.cell? ⟨gb238, 5, none⟩ = some (.bool a0_5) ∧ w14.cell? ⟨gb238, 6, none⟩ = some (.bool a0_6) ∧ w14.cell? ⟨gb238, 7, none⟩ = some (.bool a0_7) ∧ w14.cell? ⟨gb238, 8, none⟩ = some (.bool a0_8) ∧ w14.cell? ⟨gb238, 9, none⟩ = some (.slice A0_9 l0_9.length c0_9) ∧ w14.cell? ⟨gb238, 10, none⟩ = some (.slice A0_10 l0_10.length c0_10) := hS_
       refine norm_ (a' := ?_) ?_ ?_
       rotate_left
       ·simp only [putAll, Act.put, la_, lz_, ls_]
        rfl
       refine two_ (i := 6) (j := 22) (Ni := some 28) (Nj := some 44) #[T_, T_, T_, T_, T_, T_, T_, T_, T_, T_, T_, T_, T_, T_, T_, T_, T_, T_, T_, T_, T_, T_, F_, F_, F_, F_] #[T_, T_, T_, T_, T_, T_, F_, T_, T_, T_, T_, T_, T_, T_, T_, T_, T_, T_, T_, T_, T_, T_, T_, F_, F_, F_] rfl rfl rfl rfl (two_of HT_.out (by kernel_rfl)) (by decide) (by decide) (fun K hK => ?_) (fun K hK => ?_)
       ·skip
        refine Kd.R_lit_step (Kd.int .u8) _ 5 ?hg (N := 28) ?hd (xs := ([(a0_0) % 256, (a0_1) % 256] : List Int)) (inner := [.int .u8 ((a0_0) % 256), .int .u8 ((a0_1) % 256)]) (ok := fun _ => True) (okp := fun _ => True) ?hr ?hp (fun _ hk => hk) trivial (Below.refl _ _) (Nat.le_refl _) (by simp) ?_; (case hd => rfl); (case hg => rfl); (case hr => first | (go_simp; done) | (go_simp; rfl)); (case hp => exact (Reps.one (show Kd.M (Kd.int .u8) _ _ _ ((a0_0) % 256) [.int .u8 ((a0_0) % 256)] from rfl) (Reps.one (show Kd.M (Kd.int .u8) _ _ _ ((a0_1) % 256) [.int .u8 ((a0_1) % 256)] from rfl) (Reps.none _ _))))
        intro v244 w15 ho16 hb hg_ hnew_
        clear hg_ hnew_
        (first | rw [← Ny243.out] at ho16 | (simp only [Int.reduceToNat] at ho16; rw [← Ny243.out] at ho16))
        have n0_ := mk_ (Kd.V_elder' (by (with_reducible repeat (first | apply Kd.V_alloc | apply Kd.V_drewN | apply Kd.V_drew)); exact HO0_10.out) (Kd.R_base ho16) hb)
        have n1_ := mk_ (Kd.R_elder' (Kd.ur_ HO248.out) (Kd.R_base ho16) hb)
        have n2_ := mk_ (Kd.R_elder' (Kd.ur_ HO251.out) (Kd.R_base ho16) hb)
        have n3_ := mk_ (Kd.R_lower (Kd.R_new' (Kd.R_new' (Kd.R_newM (M := fun k_ => (w.heap.size ≤ k_)) ho16 (below_size (us_ HB.out)) (fun k_ h_ => h_)) (Kd.R_lt (Kd.ur_ HO248.out))) (Kd.R_lt (Kd.ur_ HO251.out))) (below_size (us_ HB.out)))
        have n4_ := mk_ (blk_below (u_ BK238.out) hb)
        have n5_ := mk_ (below_step (us_ HB.out) hb)
        clear HO0_10
        clear HO248
        clear HO251
        clear BK238
        clear HB
        have HO0_10 := n0_
        have HO248 := n1_
        have HO251 := n2_
        have HO245 := n3_
        have BK238 := n4_
        have HB := n5_
        clear n0_ n1_ n2_ n3_ n4_ n5_
        clear hb ho16
        refine hK.out _ _ ⟨(blk_cell BK238.out 0).trans rfl, (blk_cell BK238.out 1).trans rfl, (blk_cell BK238.out 2).trans rfl, (blk_cell BK238.out 3).trans rfl, (blk_cell BK238.out 4).trans rfl, (blk_cell BK238.out 5).trans rfl, (blk_cell BK238.out 6).trans rfl, (blk_cell BK238.out 7).trans rfl, (blk_cell BK238.out 8).trans rfl, (blk_cell BK238.out 9).trans rfl, (blk_cell BK238.out 10).trans rfl⟩ (fun hHeld => ?_)
        clear hK K
        refine norm_ (a' := ?_) ?_ ?_
        rotate_left
        ·show Act.put _ (some 28) _ = _
         simp only [Act.put, la_, lz_, ls_, i64_w, i32_w]
         rfl
        exact norm_ (by first | (simp only [putAll, Act.put, la_, lz_, ls_]; done) | (simp only [putAll, Act.put, la_, lz_, ls_]; rfl)) (hJ6_9_12 (v244, v247, v250) _ ⟨hHeld, (by (with_reducible repeat (first | apply Kd.V_alloc | apply Kd.V_drewN | apply Kd.V_drew)); exact Kd.V_mono HO0_10.out (fun _ hk => by first | exact ⟨hk.1.1, ⟨hk.2, ⟨hk.1.2.1, ⟨hk.1.2.2.1, hk.1.2.2.2⟩⟩⟩⟩ | exact hk.1 | exact hk | exact ⟨hk.1, hk.2⟩ | exact ⟨.inr hk.1, hk.2⟩ | simp only [hk, ne_eq, not_false_eq_true, and_self])), (by (with_reducible repeat (first | apply Kd.R_alloc | apply Kd.R_drewN | apply Kd.R_drew)); exact Kd.R_mono HO245.out (fun _ hk => by first | exact ⟨hk.1.1.1, ⟨hk.1.2, hk.2⟩⟩ | exact hk.1 | exact hk | exact ⟨hk.1, hk.2⟩ | exact ⟨.inr hk.1, hk.2⟩ | simp only [hk, ne_eq, not_false_eq_true, and_self])), (by (with_reducible repeat (first | apply Kd.R_alloc | apply Kd.R_drewN | apply Kd.R_drew)); exact Kd.R_mono HO248.out (fun _ hk => by first | exact ⟨hk.1.1, ⟨hk.2, hk.1.2⟩⟩ | exact hk.1 | exact hk | exact ⟨hk.1, hk.2⟩ | exact ⟨.inr hk.1, hk.2⟩ | simp only [hk, ne_eq, not_false_eq_true, and_self])), (by (with_reducible repeat (first | apply Kd.R_alloc | apply Kd.R_drewN | apply Kd.R_drew)); exact Kd.R_mono HO251.out (fun _ hk => by first | exact ⟨hk.1.1, ⟨hk.2, hk.1.2⟩⟩ | exact hk.1 | exact hk | exact ⟨hk.1, hk.2⟩ | exact ⟨.inr hk.1, hk.2⟩ | simp only [hk, ne_eq, not_false_eq_true, and_self])), (u_ BK238.out), (us_ HB.out)⟩)
       skip
       refine Kd.R_lit_step (Kd.int .u8) _ 5 ?hg (N := 44) ?hd (xs := ([(a0_4) % 256, (wrap64 ((wrap64 ((wrap64 (t239 + t240)) + t241)) + t242)) % 256, ((l0_9.length : Int)) % 256] : List Int)) (inner := [.int .u8 ((a0_4) % 256), .int .u8 ((wrap64 ((wrap64 ((wrap64 (t239 + t240)) + t241)) + t242)) % 256), .int .u8 (((l0_9.length : Int)) % 256)]) (ok := fun _ => True) (okp := fun _ => True) ?hr ?hp (fun _ hk => hk) trivial (Below.refl _ _) (Nat.le_refl _) (by simp) ?_; (case hd => rfl); (case hg => rfl); (case hr => first | (go_simp; done) | (go_simp; rfl)); (case hp => exact (Reps.one (show Kd.M (Kd.int .u8) _ _ _ ((a0_4) % 256) [.int .u8 ((a0_4) % 256)] from rfl) (Reps.one (show Kd.M (Kd.int .u8) _ _ _ ((wrap64 ((wrap64 ((wrap64 (t239 + t240)) + t241)) + t242)) % 256) [.int .u8 ((wrap64 ((wrap64 ((wrap64 (t239 + t240)) + t241)) + t242)) % 256)] from rfl) (Reps.one (show Kd.M (Kd.int .u8) _ _ _ (((l0_9.length : Int)) % 256) [.int .u8 (((l0_9.length : Int)) % 256)] from rfl) (Reps.none _ _)))))
       intro v253 w15 ho16 hb hg_ hnew_
       clear hg_ hnew_
       (first | rw [← Ny252.out] at ho16 | (simp only [Int.reduceToNat] at ho16; rw [← Ny252.out] at ho16))
       have n0_ := mk_ (Kd.V_elder' (by (with_reducible repeat (first | apply Kd.V_alloc | apply Kd.V_drewN | apply Kd.V_drew)); exact HO0_10.out) (Kd.R_base ho16) hb)
       have n1_ := mk_ (Kd.R_elder' (Kd.ur_ HO248.out) (Kd.R_base ho16) hb)
       have n2_ := mk_ (Kd.R_elder' (Kd.ur_ HO251.out) (Kd.R_base ho16) hb)
       have n3_ := mk_ (Kd.R_lower (Kd.R_new' (Kd.R_new' (Kd.R_newM (M := fun k_ => (w.heap.size ≤ k_)) ho16 (below_size (us_ HB.out)) (fun k_ h_ => h_)) (Kd.R_lt (Kd.ur_ HO248.out))) (Kd.R_lt (Kd.ur_ HO251.out))) (below_size (us_ HB.out)))
       have n4_ := mk_ (blk_below (u_ BK238.out) hb)
       have n5_ := mk_ (below_step (us_ HB.out) hb)
       clear HO0_10
       clear HO248
       clear HO251
       clear BK238
       clear HB
       have HO0_10 := n0_
       have HO248 := n1_
       have HO251 := n2_
       have HO254 := n3_
       have BK238 := n4_
       have HB := n5_
       clear n0_ n1_ n2_ n3_ n4_ n5_
       clear hb ho16
       refine hK.out _ _ ⟨(blk_cell BK238.out 0).trans rfl, (blk_cell BK238.out 1).trans rfl, (blk_cell BK238.out 2).trans rfl, (blk_cell BK238.out 3).trans rfl, (blk_cell BK238.out 4).trans rfl, (blk_cell BK238.out 5).trans rfl, (blk_cell BK238.out 6).trans rfl, (blk_cell BK238.out 7).trans rfl, (blk_cell BK238.out 8).trans rfl, (blk_cell BK238.out 9).trans rfl, (blk_cell BK238.out 10).trans rfl⟩ (fun hHeld => ?_)
       clear hK K
       refine norm_ (a' := ?_) ?_ ?_
       rotate_left
       ·show Act.put _ (some 44) _ = _
        simp only [Act.put, la_, lz_, ls_, i64_w, i32_w]
        rfl
       exact norm_ (by first | (simp only [putAll, Act.put, la_, lz_, ls_]; done) | (simp only [putAll, Act.put, la_, lz_, ls_]; rfl)) (hJ9_12_22 (v247, v250, v253) _ ⟨hHeld, (by (with_reducible repeat (first | apply Kd.V_alloc | apply Kd.V_drewN | apply Kd.V_drew)); exact Kd.V_mono HO0_10.out (fun _ hk => by first | exact ⟨hk.1.1, ⟨hk.1.2.1, ⟨hk.1.2.2.1, ⟨hk.2, hk.1.2.2.2⟩⟩⟩⟩ | exact hk.1 | exact hk | exact ⟨hk.1, hk.2⟩ | exact ⟨.inr hk.1, hk.2⟩ | simp only [hk, ne_eq, not_false_eq_true, and_self])), (by (with_reducible repeat (first | apply Kd.R_alloc | apply Kd.R_drewN | apply Kd.R_drew)); exact Kd.R_mono HO248.out (fun _ hk => by first | exact ⟨hk.1.1, ⟨hk.1.2, hk.2⟩⟩ | exact hk.1 | exact hk | exact ⟨hk.1, hk.2⟩ | exact ⟨.inr hk.1, hk.2⟩ | simp only [hk, ne_eq, not_false_eq_true, and_self])), (by (with_reducible repeat (first | apply Kd.R_alloc | apply Kd.R_drewN | apply Kd.R_drew)); exact Kd.R_mono HO251.out (fun _ hk => by first | exact ⟨hk.1.1, ⟨hk.1.2, hk.2⟩⟩ | exact hk.1 | exact hk | exact ⟨hk.1, hk.2⟩ | exact ⟨.inr hk.1, hk.2⟩ | simp only [hk, ne_eq, not_false_eq_true, and_self])), (by (with_reducible repeat (first | apply Kd.R_alloc | apply Kd.R_drewN | apply Kd.R_drew)); exact Kd.R_mono HO254.out (fun _ hk => by first | exact ⟨hk.1.1.1, ⟨hk.1.2, hk.2⟩⟩ | exact hk.1 | exact hk | exact ⟨hk.1, hk.2⟩ | exact ⟨.inr hk.1, hk.2⟩ | simp only [hk, ne_eq, not_false_eq_true, and_self])), (u_ BK238.out), (us_ HB.out)⟩)
      skip
      rintro ⟨v244, v253⟩ w16 ⟨hS_, h0_, h1_, h2_, h3_, h4_⟩
      have n0_ : Aside0 (Kd.V (Kd.int .u8) 5 w16 w.heap.size (fun k_ => (P0_10_ k_ ∨ w.heap.size ≤ k_) ∧ some k_ ≠ (v244 : Value).ownBlock ∧ some k_ ≠ (v253 : Value).ownBlock ∧ k_ ≠ gb238) (.slice A0_10 l0_10.length c0_10) l0_10) := ⟨h0_⟩
      have n1_ : Aside0 (Kd.R (Kd.int .u8) 5 w16 w.heap.size (fun k_ => (w.heap.size ≤ k_) ∧ some k_ ≠ (v253 : Value).ownBlock) v244 y243) := ⟨h1_⟩
      have n2_ : Aside0 (Kd.R (Kd.int .u8) 5 w16 w.heap.size (fun k_ => (w.heap.size ≤ k_) ∧ some k_ ≠ (v244 : Value).ownBlock) v253 y252) := ⟨h2_⟩
      have n3_ : Aside0 (w16.heap[gb238]? = some (.cells #[.int .i64 a0_0, .int .i64 a0_1, .int .i64 a0_2, .int .i64 a0_3, .int .i64 a0_4, .bool a0_5, .bool a0_6, .bool a0_7, .bool a0_8, .slice A0_9 l0_9.length c0_9, .slice A0_10 l0_10.length c0_10] 31 (0, 0))) := ⟨h3_⟩
      have n4_ : Aside0 (Below w.heap.size w w16) := ⟨h4_⟩
      clear HO0_10
      clear BK238
      clear HB
      clear h0_ h1_ h2_ h3_ h4_
      have HO0_10 := n0_
      have HO245 := n1_
      have HO254 := n2_
      have BK238 := n3_
      have HB := n4_
      clear n0_ n1_ n2_ n3_ n4_
      have hHeld : w16.cell? ⟨gb238, 0, none⟩ = some (.int .i64 a0_0) ∧ w16.cell? ⟨gb238, 1, none⟩ = some (.int .i64 a0_1) ∧ w16.cell? ⟨gb238, 2, none⟩ = some (.int .i64 a0_2) ∧ w16.cell? ⟨gb238, 3, none⟩ = some (.int .i64 a0_3) ∧ w16.cell? ⟨gb238, 4, none⟩ = some (.int .i64 a0_4) ∧ w16.cell? ⟨gb238, 5, none⟩ = some (.bool a0_5) ∧ w16.cell? ⟨gb238, 6, none⟩ = some (.bool a0_6) ∧ w16.cell? ⟨gb238, 7, none⟩ = some (.bool a0_7) ∧ w16.cell? ⟨gb238, 8, none⟩ = some (.bool a0_8) ∧ w16.cell? ⟨gb238, 9, none⟩ = some (.slice A0_9 l0_9.length c0_9) ∧ w16.cell? ⟨gb238, 10, none⟩ = some (.slice A0_10 l0_10.length c0_10) := hS_
      refine norm_ (a' := ?_) ?_ ?_
      rotate_left
      ·simp only [putAll, Act.put, la_, lz_, ls_]
       rfl
      refine one_ (i := 9) (N := some 31) #[T_, T_, T_, T_, T_, T_, T_, T_, T_, T_, T_, T_, F_, T_, T_, T_, T_, T_, T_, T_, T_, T_, T_, F_, F_, F_] rfl rfl (one_of HT_.out (by kernel_rfl)) (by decide) (fun K hK => ?_)
      refine goes_ Try.func63 (by kernel_rfl) rfl #[.int .i64 a0_2, .int .i64 2] (by rfl) rfl rfl (by (try simp only [lm_, lo_, ln_]); first | done | rfl | (simp only [List.length_drop, List.length_take]; rfl)) ?_
      with_reducible refine (impl_bytesOf.calls k a0_2 2 t246 _ A6.out).mono ?_
      rintro e w17 ⟨v247, rfl, ho0, hb⟩
      refine ⟨_, rfl, ?_⟩
      have n0_ := mk_ (Kd.V_elder' (by (with_reducible repeat (first | apply Kd.V_alloc | apply Kd.V_drewN | apply Kd.V_drew)); exact HO0_10.out) (Kd.R_base ho0) hb)
      have n1_ := mk_ (Kd.R_elder' (Kd.ur_ HO245.out) (Kd.R_base ho0) hb)
      have n2_ := mk_ (Kd.R_elder' (Kd.ur_ HO254.out) (Kd.R_base ho0) hb)
      have n3_ := mk_ (Kd.R_lower (Kd.R_new' (Kd.R_new' (Kd.R_newM (M := fun k_ => (w.heap.size ≤ k_)) ho0 (below_size (us_ HB.out)) (fun k_ h_ => h_)) (Kd.R_lt (Kd.ur_ HO245.out))) (Kd.R_lt (Kd.ur_ HO254.out))) (below_size (us_ HB.out)))
      have n4_ := mk_ (blk_below (u_ BK238.out) hb)
      have n5_ := mk_ (below_step (us_ HB.out) hb)
      clear HO0_10
      clear HO245
      clear HO254
      clear BK238
      clear HB
      have HO0_10 := n0_
      have HO245 := n1_
      have HO254 := n2_
      have HO248 := n3_
      have BK238 := n4_
      have HB := n5_
      clear n0_ n1_ n2_ n3_ n4_ n5_
      (try clear hb)
      (try clear hb2)
      (try clear hk)
      (try clear hi)
      (try clear ho0)
      refine hK.out _ _ ⟨(blk_cell BK238.out 0).trans rfl, (blk_cell BK238.out 1).trans rfl, (blk_cell BK238.out 2).trans rfl, (blk_cell BK238.out 3).trans rfl, (blk_cell BK238.out 4).trans rfl, (blk_cell BK238.out 5).trans rfl, (blk_cell BK238.out 6).trans rfl, (blk_cell BK238.out 7).trans rfl, (blk_cell BK238.out 8).trans rfl, (blk_cell BK238.out 9).trans rfl, (blk_cell BK238.out 10).trans rfl⟩ (fun hHeld => ?_)
      clear hK K
      refine norm_ (a' := ?_) ?_ ?_
      rotate_left
      ·show Act.put _ (some 31) _ = _
       simp only [Act.put, la_, lz_, ls_, i64_w, i32_w]
       rfl
      exact norm_ (by first | (simp only [putAll, Act.put, la_, lz_, ls_]; done) | (simp only [putAll, Act.put, la_, lz_, ls_]; rfl)) (hJ6_9_22 (v244, v247, v253) _ ⟨hHeld, (by (with_reducible repeat (first | apply Kd.V_alloc | apply Kd.V_drewN | apply Kd.V_drew)); exact Kd.V_mono HO0_10.out (fun _ hk => by first | exact ⟨hk.1.1, ⟨hk.1.2.1, ⟨hk.2, ⟨hk.1.2.2.1, hk.1.2.2.2⟩⟩⟩⟩ | exact hk.1 | exact hk | exact ⟨hk.1, hk.2⟩ | exact ⟨.inr hk.1, hk.2⟩ | simp only [hk, ne_eq, not_false_eq_true, and_self])), (by (with_reducible repeat (first | apply Kd.R_alloc | apply Kd.R_drewN | apply Kd.R_drew)); exact Kd.R_mono HO245.out (fun _ hk => by first | exact ⟨hk.1.1, ⟨hk.2, hk.1.2⟩⟩ | exact hk.1 | exact hk | exact ⟨hk.1, hk.2⟩ | exact ⟨.inr hk.1, hk.2⟩ | simp only [hk, ne_eq, not_false_eq_true, and_self])), (by (with_reducible repeat (first | apply Kd.R_alloc | apply Kd.R_drewN | apply Kd.R_drew)); exact Kd.R_mono HO248.out (fun _ hk => by first | exact ⟨hk.1.1.1, ⟨hk.1.2, hk.2⟩⟩ | exact hk.1 | exact hk | exact ⟨hk.1, hk.2⟩ | exact ⟨.inr hk.1, hk.2⟩ | simp only [hk, ne_eq, not_false_eq_true, and_self])), (by (with_reducible repeat (first | apply Kd.R_alloc | apply Kd.R_drewN | apply Kd.R_drew)); exact Kd.R_mono HO254.out (fun _ hk => by first | exact ⟨hk.1.1, ⟨hk.1.2, hk.2⟩⟩ | exact hk.1 | exact hk | exact ⟨hk.1, hk.2⟩ | exact ⟨.inr hk.1, hk.2⟩ | simp only [hk, ne_eq, not_false_eq_true, and_self])), (u_ BK238.out), (us_ HB.out)⟩)
     skip
     rintro ⟨v244, v247⟩ w15 ⟨hS_, h0_, h1_, h2_, h3_, h4_⟩
     have n0_ : Aside0 (Kd.V (Kd.int .u8) 5 w15 w.heap.size (fun k_ => (P0_10_ k_ ∨ w.heap.size ≤ k_) ∧ some k_ ≠ (v244 : Value).ownBlock ∧ some k_ ≠ (v247 : Value).ownBlock ∧ k_ ≠ gb238) (.slice A0_10 l0_10.length c0_10) l0_10) := ⟨h0_⟩
     have n1_ : Aside0 (Kd.R (Kd.int .u8) 5 w15 w.heap.size (fun k_ => (w.heap.size ≤ k_) ∧ some k_ ≠ (v247 : Value).ownBlock) v244 y243) := ⟨h1_⟩
     have n2_ : Aside0 (Kd.R (Kd.int .u8) 5 w15 w.heap.size (fun k_ => (w.heap.size ≤ k_) ∧ some k_ ≠ (v244 : Value).ownBlock) v247 t246) := ⟨h2_⟩
     have n3_ : Aside0 (w15.heap[gb238]? = some (.cells #[.int .i64 a0_0, .int .i64 a0_1, .int .i64 a0_2, .int .i64 a0_3, .int .i64 a0_4, .bool a0_5, .bool a0_6, .bool a0_7, .bool a0_8, .slice A0_9 l0_9.length c0_9, .slice A0_10 l0_10.length c0_10] 31 (0, 0))) := ⟨h3_⟩
     have n4_ : Aside0 (Below w.heap.size w w15) := ⟨h4_⟩
     clear HO0_10
     clear BK238
     clear HB
     clear h0_ h1_ h2_ h3_ h4_
     have HO0_10 := n0_
     have HO245 := n1_
     have HO248 := n2_
     have BK238 := n3_
     have HB := n4_
     clear n0_ n1_ n2_ n3_ n4_
     have hHeld : w15.cell? ⟨gb238, 0, none⟩ = some (.int .i64 a0_0) ∧ w15.cell? ⟨gb238, 1, none⟩ = some (.int .i64 a0_1) ∧ w15.cell? ⟨gb238, 2, none⟩ = some (.int .i64 a0_2) ∧ w15.cell? ⟨gb238, 3, none⟩ = some (.int .i64 a0_3) ∧ w15.cell? ⟨gb238, 4, none⟩ = some (.int .i64 a0_4) ∧ w15.cell? ⟨gb238, 5, none⟩ = some (.bool a0_5) ∧ w15.cell? ⟨gb238, 6, none⟩ = some (.bool a0_6) ∧ w15.cell? ⟨gb238, 7, none⟩ = some (.bool a0_7) ∧ w15.cell? ⟨gb238, 8, none⟩ = some (.bool a0_8) ∧ w15.cell? ⟨gb238, 9, none⟩ = some (.slice A0_9 l0_9.length c0_9) ∧ w15.cell? ⟨gb238, 10, none⟩ = some (.slice A0_10 l0_10.length c0_10) := hS_
     refine norm_ (a' := ?_) ?_ ?_
     rotate_left
     ·simp only [putAll, Act.put, la_, lz_, ls_]
      rfl
     refine two_ (i := 12) (j := 22) (Ni := some 34) (Nj := some 44) #[T_, T_, T_, T_, T_, T_, T_, T_, T_, T_, T_, T_, T_, T_, T_, T_, T_, T_, T_, T_, T_, T_, F_, F_, F_, F_] #[T_, T_, T_, T_, T_, T_, T_, T_, T_, T_, T_, T_, F_, T_, T_, T_, T_, T_, T_, T_, T_, T_, T_, F_, F_, F_] rfl rfl rfl rfl (two_of HT_.out (by kernel_rfl)) (by decide) (by decide) (fun K hK => ?_) (fun K hK => ?_)
     ·skip
      refine goes_ Try.func63 (by kernel_rfl) rfl #[.int .i64 a0_3, .int .i64 2] (by rfl) rfl rfl (by (try simp only [lm_, lo_, ln_]); first | done | rfl | (simp only [List.length_drop, List.length_take]; rfl)) ?_
      with_reducible refine (impl_bytesOf.calls k a0_3 2 t249 _ A7.out).mono ?_
      rintro e w16 ⟨v250, rfl, ho0, hb⟩
      refine ⟨_, rfl, ?_⟩
      have n0_ := mk_ (Kd.V_elder' (by (with_reducible repeat (first | apply Kd.V_alloc | apply Kd.V_drewN | apply Kd.V_drew)); exact HO0_10.out) (Kd.R_base ho0) hb)
      have n1_ := mk_ (Kd.R_elder' (Kd.ur_ HO245.out) (Kd.R_base ho0) hb)
      have n2_ := mk_ (Kd.R_elder' (Kd.ur_ HO248.out) (Kd.R_base ho0) hb)
      have n3_ := mk_ (Kd.R_lower (Kd.R_new' (Kd.R_new' (Kd.R_newM (M := fun k_ => (w.heap.size ≤ k_)) ho0 (below_size (us_ HB.out)) (fun k_ h_ => h_)) (Kd.R_lt (Kd.ur_ HO245.out))) (Kd.R_lt (Kd.ur_ HO248.out))) (below_size (us_ HB.out)))
      have n4_ := mk_ (blk_below (u_ BK238.out) hb)
      have n5_ := mk_ (below_step (us_ HB.out) hb)
      clear HO0_10
      clear HO245
      clear HO248
      clear BK238
      clear HB
      have HO0_10 := n0_
      have HO245 := n1_
      have HO248 := n2_
      have HO251 := n3_
      have BK238 := n4_
      have HB := n5_
      clear n0_ n1_ n2_ n3_ n4_ n5_
      (try clear hb)
      (try clear hb2)
      (try clear hk)
      (try clear hi)
      (try clear ho0)
      refine hK.out _ _ ⟨(blk_cell BK238.out 0).trans rfl, (blk_cell BK238.out 1).trans rfl, (blk_cell BK238.out 2).trans rfl, (blk_cell BK238.out 3).trans rfl, (blk_cell BK238.out 4).trans rfl, (blk_cell BK238.out 5).trans rfl, (blk_cell BK238.out 6).trans rfl, (blk_cell BK238.out 7).trans rfl, (blk_cell BK238.out 8).trans rfl, (blk_cell BK238.out 9).trans rfl, (blk_cell BK238.out 10).trans rfl⟩ (fun hHeld => ?_)
      clear hK K
      refine norm_ (a' := ?_) ?_ ?_
      rotate_left
      ·show Act.put _ (some 34) _ = _
       simp only [Act.put, la_, lz_, ls_, i64_w, i32_w]
       rfl
      exact norm_ (by first | (simp only [putAll, Act.put, la_, lz_, ls_]; done) | (simp only [putAll, Act.put, la_, lz_, ls_]; rfl)) (hJ6_9_12 (v244, v247, v250) _ ⟨hHeld, (by (with_reducible repeat (first | apply Kd.V_alloc | apply Kd.V_drewN | apply Kd.V_drew)); exact Kd.V_mono HO0_10.out (fun _ hk => by first | exact ⟨hk.1.1, ⟨hk.1.2.1, ⟨hk.1.2.2.1, ⟨hk.2, hk.1.2.2.2⟩⟩⟩⟩ | exact hk.1 | exact hk | exact ⟨hk.1, hk.2⟩ | exact ⟨.inr hk.1, hk.2⟩ | simp only [hk, ne_eq, not_false_eq_true, and_self])), (by (with_reducible repeat (first | apply Kd.R_alloc | apply Kd.R_drewN | apply Kd.R_drew)); exact Kd.R_mono HO245.out (fun _ hk => by first | exact ⟨hk.1.1, ⟨hk.1.2, hk.2⟩⟩ | exact hk.1 | exact hk | exact ⟨hk.1, hk.2⟩ | exact ⟨.inr hk.1, hk.2⟩ | simp only [hk, ne_eq, not_false_eq_true, and_self])), (by (with_reducible repeat (first | apply Kd.R_alloc | apply Kd.R_drewN | apply Kd.R_drew)); exact Kd.R_mono HO248.out (fun _ hk => by first | exact ⟨hk.1.1, ⟨hk.1.2, hk.2⟩⟩ | exact hk.1 | exact hk | exact ⟨hk.1, hk.2⟩ | exact ⟨.inr hk.1, hk.2⟩ | simp only [hk, ne_eq, not_false_eq_true, and_self])), (by (with_reducible repeat (first | apply Kd.R_alloc | apply Kd.R_drewN | apply Kd.R_drew)); exact Kd.R_mono HO251.out (fun _ hk => by first | exact ⟨hk.1.1.1, ⟨hk.1.2, hk.2⟩⟩ | exact hk.1 | exact hk | exact ⟨hk.1, hk.2⟩ | exact ⟨.inr hk.1, hk.2⟩ | simp only [hk, ne_eq, not_false_eq_true, and_self])), (u_ BK238.out), (us_ HB.out)⟩)
     skip
     refine Kd.R_lit_step (Kd.int .u8) _ 5 ?hg (N := 44) ?hd (xs := ([(a0_4) % 256, (wrap64 ((wrap64 ((wrap64 (t239 + t240)) + t241)) + t242)) % 256, ((l0_9.length : Int)) % 256] : List Int)) (inner := [.int .u8 ((a0_4) % 256), .int .u8 ((wrap64 ((wrap64 ((wrap64 (t239 + t240)) + t241)) + t242)) % 256), .int .u8 (((l0_9.length : Int)) % 256)]) (ok := fun _ => True) (okp := fun _ => True) ?hr ?hp (fun _ hk => hk) trivial (Below.refl _ _) (Nat.le_refl _) (by simp) ?_; (case hd => rfl); (case hg => rfl); (case hr => first | (go_simp; done) | (go_simp; rfl)); (case hp => exact (Reps.one (show Kd.M (Kd.int .u8) _ _ _ ((a0_4) % 256) [.int .u8 ((a0_4) % 256)] from rfl) (Reps.one (show Kd.M (Kd.int .u8) _ _ _ ((wrap64 ((wrap64 ((wrap64 (t239 + t240)) + t241)) + t242)) % 256) [.int .u8 ((wrap64 ((wrap64 ((wrap64 (t239 + t240)) + t241)) + t242)) % 256)] from rfl) (Reps.one (show Kd.M (Kd.int .u8) _ _ _ (((l0_9.length : Int)) % 256) [.int .u8 (((l0_9.length : Int)) % 256)] from rfl) (Reps.none _ _)))))
     intro v253 w16 ho17 hb hg_ hnew_
     clear hg_ hnew_
     (first | rw [← Ny252.out] at ho17 | (simp only [Int.reduceToNat] at ho17; rw [← Ny252.out] at ho17))
     have n0_ := mk_ (Kd.V_elder' (by (with_reducible repeat (first | apply Kd.V_alloc | apply Kd.V_drewN | apply Kd.V_drew)); exact HO0_10.out) (Kd.R_base ho17) hb)
     have n1_ := mk_ (Kd.R_elder' (Kd.ur_ HO245.out) (Kd.R_base ho17) hb)
     have n2_ := mk_ (Kd.R_elder' (Kd.ur_ HO248.out) (Kd.R_base ho17) hb)
     have n3_ := mk_ (Kd.R_lower (Kd.R_new' (Kd.R_new' (Kd.R_newM (M := fun k_ => (w.heap.size ≤ k_)) ho17 (below_size (us_ HB.out)) (fun k_ h_ => h_)) (Kd.R_lt (Kd.ur_ HO245.out))) (Kd.R_lt (Kd.ur_ HO248.out))) (below_size (us_ HB.out)))
     have n4_ := mk_ (blk_below (u_ BK238.out) hb)
     have n5_ := mk_ (below_step (us_ HB.out) hb)
     clear HO0_10
     clear HO245
     clear HO248
     clear BK238
     clear HB
     have HO0_10 := n0_
     have HO245 := n1_
     have HO248 := n2_
     have HO254 := n3_
     have BK238 := n4_
     have HB := n5_
     clear n0_ n1_ n2_ n3_ n4_ n5_
     clear hb ho17
     refine hK.out _ _ ⟨(blk_cell BK238.out 0).trans rfl, (blk_cell BK238.out 1).trans rfl, (blk_cell BK238.out 2).trans rfl, (blk_cell BK238.out 3).trans rfl, (blk_cell BK238.out 4).trans rfl, (blk_cell BK238.out 5).trans rfl, (blk_cell BK238.out 6).trans rfl, (blk_cell BK238.out 7).trans rfl, (blk_cell BK238.out 8).trans rfl, (blk_cell BK238.out 9).trans rfl, (blk_cell BK238.out 10).trans rfl⟩ (fun hHeld => ?_)
     clear hK K
     refine norm_ (a' := ?_) ?_ ?_
     rotate_left
     ·show Act.put _ (some 44) _ = _
      simp only [Act.put, la_, lz_, ls_, i64_w, i32_w]
      rfl
     exact norm_ (by first | (simp only [putAll, Act.put, la_, lz_, ls_]; done) | (simp only [putAll, Act.put, la_, lz_, ls_]; rfl)) (hJ6_9_22 (v244, v247, v253) _ ⟨hHeld, (by (with_reducible repeat (first | apply Kd.V_alloc | apply Kd.V_drewN | apply Kd.V_drew)); exact Kd.V_mono HO0_10.out (fun _ hk => by first | exact ⟨hk.1.1, ⟨hk.1.2.1, ⟨hk.1.2.2.1, ⟨hk.2, hk.1.2.2.2⟩⟩⟩⟩ | exact hk.1 | exact hk | exact ⟨hk.1, hk.2⟩ | exact ⟨.inr hk.1, hk.2⟩ | simp only [hk, ne_eq, not_false_eq_true, and_self])), (by (with_reducible repeat (first | apply Kd.R_alloc | apply Kd.R_drewN | apply Kd.R_drew)); exact Kd.R_mono HO245.out (fun _ hk => by first | exact ⟨hk.1.1, ⟨hk.1.2, hk.2⟩⟩ | exact hk.1 | exact hk | exact ⟨hk.1, hk.2⟩ | exact ⟨.inr hk.1, hk.2⟩ | simp only [hk, ne_eq, not_false_eq_true, and_self])), (by (with_reducible repeat (first | apply Kd.R_alloc | apply Kd.R_drewN | apply Kd.R_drew)); exact Kd.R_mono HO248.out (fun _ hk => by first | exact ⟨hk.1.1, ⟨hk.1.2, hk.2⟩⟩ | exact hk.1 | exact hk | exact ⟨hk.1, hk.2⟩ | exact ⟨.inr hk.1, hk.2⟩ | simp only [hk, ne_eq, not_false_eq_true, and_self])), (by (with_reducible repeat (first | apply Kd.R_alloc | apply Kd.R_drewN | apply Kd.R_drew)); exact Kd.R_mono HO254.out (fun _ hk => by first | exact ⟨hk.1.1.1, ⟨hk.1.2, hk.2⟩⟩ | exact hk.1 | exact hk | exact ⟨hk.1, hk.2⟩ | exact ⟨.inr hk.1, hk.2⟩ | simp only [hk, ne_eq, not_false_eq_true, and_self])), (u_ BK238.out), (us_ HB.out)⟩)
    skip
    rintro ⟨v247, v250, v253⟩ w16 ⟨hS_, h0_, h1_, h2_, h3_, h4_, h5_⟩
    have n0_ : Aside0 (Kd.V (Kd.int .u8) 5 w16 w.heap.size (fun k_ => (P0_10_ k_ ∨ w.heap.size ≤ k_) ∧ some k_ ≠ (v247 : Value).ownBlock ∧ some k_ ≠ (v250 : Value).ownBlock ∧ some k_ ≠ (v253 : Value).ownBlock ∧ k_ ≠ gb238) (.slice A0_10 l0_10.length c0_10) l0_10) := ⟨h0_⟩
    have n1_ : Aside0 (Kd.R (Kd.int .u8) 5 w16 w.heap.size (fun k_ => (w.heap.size ≤ k_) ∧ some k_ ≠ (v250 : Value).ownBlock ∧ some k_ ≠ (v253 : Value).ownBlock) v247 t246) := ⟨h1_⟩
    have n2_ : Aside0 (Kd.R (Kd.int .u8) 5 w16 w.heap.size (fun k_ => (w.heap.size ≤ k_) ∧ some k_ ≠ (v247 : Value).ownBlock ∧ some k_ ≠ (v253 : Value).ownBlock) v250 t249) := ⟨h2_⟩
    have n3_ : Aside0 (Kd.R (Kd.int .u8) 5 w16 w.heap.size (fun k_ => (w.heap.size ≤ k_) ∧ some k_ ≠ (v247 : Value).ownBlock ∧ some k_ ≠ (v250 : Value).ownBlock) v253 y252) := ⟨h3_⟩
    have n4_ : Aside0 (w16.heap[gb238]? = some (.cells #[.int .i64 a0_0, .int .i64 a0_1, .int .i64 a0_2, .int .i64 a0_3, .int .i64 a0_4, .bool a0_5, .bool a0_6, .bool a0_7, .bool a0_8, .slice A0_9 l0_9.length c0_9, .slice A0_10 l0_10.length c0_10] 31 (0, 0))) := ⟨h4_⟩
    have n5_ : Aside0 (Below w.heap.size w w16) := ⟨h5_⟩
    clear HO0_10
    clear BK238
    clear HB
    clear h0_ h1_ h2_ h3_ h4_ h5_
    have HO0_10 := n0_
    have HO248 := n1_
    have HO251 := n2_
    have HO254 := n3_
    have BK238 := n4_
    have HB := n5_
    clear n0_ n1_ n2_ n3_ n4_ n5_
    have hHeld : w16.cell? ⟨gb238, 0, none⟩ = some (.int .i64 a0_0) ∧ w16.cell? ⟨gb238, 1, none⟩ = some (.int .i64 a0_1) ∧ w16.cell? ⟨gb238, 2, none⟩ = some (.int .i64 a0_2) ∧ w16.cell? ⟨gb238, 3, none⟩ = some (.int .i64 a0_3) ∧ w16.cell? ⟨gb238, 4, none⟩ = some (.int .i64 a0_4) ∧ w16.cell? ⟨gb238, 5, none⟩ = some (.bool a0_5) ∧ w16.cell? ⟨gb238, 6, none⟩ = some (.bool a0_6) ∧ w16.cell? ⟨gb238, 7, none⟩ = some (.bool a0_7) ∧ w16.cell? ⟨gb238, 8, none⟩ = some (.bool a0_8) ∧ w16.cell? ⟨gb238, 9, none⟩ = some (.slice A0_9 l0_9.length c0_9) ∧ w16.cell? ⟨gb238, 10, none⟩ = some (.slice A0_10 l0_10.length c0_10) := hS_
    refine norm_ (a' := ?_) ?_ ?_
    rotate_left
    ·simp only [putAll, Act.put, la_, lz_, ls_]
     rfl
    refine one_ (i := 6) (N := some 28) #[T_, T_, T_, T_, T_, T_, T_, T_, T_, T_, T_, T_, T_, T_, T_, T_, T_, T_, T_, T_, T_, T_, T_, F_, F_, F_] rfl rfl (one_of HT_.out (by kernel_rfl)) (by decide) (fun K hK => ?_)
    refine Kd.R_lit_step (Kd.int .u8) _ 5 ?hg (N := 28) ?hd (xs := ([(a0_0) % 256, (a0_1) % 256] : List Int)) (inner := [.int .u8 ((a0_0) % 256), .int .u8 ((a0_1) % 256)]) (ok := fun _ => True) (okp := fun _ => True) ?hr ?hp (fun _ hk => hk) trivial (Below.refl _ _) (Nat.le_refl _) (by simp) ?_; (case hd => rfl); (case hg => rfl); (case hr => first | (go_simp; done) | (go_simp; rfl)); (case hp => exact (Reps.one (show Kd.M (Kd.int .u8) _ _ _ ((a0_0) % 256) [.int .u8 ((a0_0) % 256)] from rfl) (Reps.one (show Kd.M (Kd.int .u8) _ _ _ ((a0_1) % 256) [.int .u8 ((a0_1) % 256)] from rfl) (Reps.none _ _))))
    intro v244 w17 ho18 hb hg_ hnew_
    clear hg_ hnew_
    (first | rw [← Ny243.out] at ho18 | (simp only [Int.reduceToNat] at ho18; rw [← Ny243.out] at ho18))
    have n0_ := mk_ (Kd.V_elder' (by (with_reducible repeat (first | apply Kd.V_alloc | apply Kd.V_drewN | apply Kd.V_drew)); exact HO0_10.out) (Kd.R_base ho18) hb)
    have n1_ := mk_ (Kd.R_elder' (Kd.ur_ HO248.out) (Kd.R_base ho18) hb)
    have n2_ := mk_ (Kd.R_elder' (Kd.ur_ HO251.out) (Kd.R_base ho18) hb)
    have n3_ := mk_ (Kd.R_elder' (Kd.ur_ HO254.out) (Kd.R_base ho18) hb)
    have n4_ := mk_ (Kd.R_lower (Kd.R_new' (Kd.R_new' (Kd.R_new' (Kd.R_newM (M := fun k_ => (w.heap.size ≤ k_)) ho18 (below_size (us_ HB.out)) (fun k_ h_ => h_)) (Kd.R_lt (Kd.ur_ HO248.out))) (Kd.R_lt (Kd.ur_ HO251.out))) (Kd.R_lt (Kd.ur_ HO254.out))) (below_size (us_ HB.out)))
    have n5_ := mk_ (blk_below (u_ BK238.out) hb)
    have n6_ := mk_ (below_step (us_ HB.out) hb)
    clear HO0_10
    clear HO248
    clear HO251
    clear HO254
    clear BK238
    clear HB
    have HO0_10 := n0_
    have HO248 := n1_
    have HO251 := n2_
    have HO254 := n3_
    have HO245 := n4_
    have BK238 := n5_
    have HB := n6_
    clear n0_ n1_ n2_ n3_ n4_ n5_ n6_
    clear hb ho18
    refine hK.out _ _ ⟨(blk_cell BK238.out 0).trans rfl, (blk_cell BK238.out 1).trans rfl, (blk_cell BK238.out 2).trans rfl, (blk_cell BK238.out 3).trans rfl, (blk_cell BK238.out 4).trans rfl, (blk_cell BK238.out 5).trans rfl, (blk_cell BK238.out 6).trans rfl, (blk_cell BK238.out 7).trans rfl, (blk_cell BK238.out 8).trans rfl, (blk_cell BK238.out 9).trans rfl, (blk_cell BK238.out 10).trans rfl⟩ (fun hHeld => ?_)
    clear hK K
    refine norm_ (a' := ?_) ?_ ?_
    rotate_left
    ·show Act.put _ (some 28) _ = _
     simp only [Act.put, la_, lz_, ls_, i64_w, i32_w]
     rfl
    exact norm_ (by first | (simp only [putAll, Act.put, la_, lz_, ls_]; done) | (simp only [putAll, Act.put, la_, lz_, ls_]; rfl)) (hJ6_9_12_22 (v244, v247, v250, v253) _ ⟨hHeld, (by (with_reducible repeat (first | apply Kd.V_alloc | apply Kd.V_drewN | apply Kd.V_drew)); exact Kd.V_mono HO0_10.out (fun _ hk => by first | exact ⟨hk.1.1, ⟨hk.2, ⟨hk.1.2.1, ⟨hk.1.2.2.1, ⟨hk.1.2.2.2.1, hk.1.2.2.2.2⟩⟩⟩⟩⟩ | exact hk.1 | exact hk | exact ⟨hk.1, hk.2⟩ | exact ⟨.inr hk.1, hk.2⟩ | simp only [hk, ne_eq, not_false_eq_true, and_self])), (by (with_reducible repeat (first | apply Kd.R_alloc | apply Kd.R_drewN | apply Kd.R_drew)); exact Kd.R_mono HO245.out (fun _ hk => by first | exact ⟨hk.1.1.1.1, ⟨hk.1.1.2, ⟨hk.1.2, hk.2⟩⟩⟩ | exact hk.1 | exact hk | exact ⟨hk.1, hk.2⟩ | exact ⟨.inr hk.1, hk.2⟩ | simp only [hk, ne_eq, not_false_eq_true, and_self])), (by (with_reducible repeat (first | apply Kd.R_alloc | apply Kd.R_drewN | apply Kd.R_drew)); exact Kd.R_mono HO248.out (fun _ hk => by first | exact ⟨hk.1.1, ⟨hk.2, ⟨hk.1.2.1, hk.1.2.2⟩⟩⟩ | exact hk.1 | exact hk | exact ⟨hk.1, hk.2⟩ | exact ⟨.inr hk.1, hk.2⟩ | simp only [hk, ne_eq, not_false_eq_true, and_self])), (by (with_reducible repeat (first | apply Kd.R_alloc | apply Kd.R_drewN | apply Kd.R_drew)); exact Kd.R_mono HO251.out (fun _ hk => by first | exact ⟨hk.1.1, ⟨hk.2, ⟨hk.1.2.1, hk.1.2.2⟩⟩⟩ | exact hk.1 | exact hk | exact ⟨hk.1, hk.2⟩ | exact ⟨.inr hk.1, hk.2⟩ | simp only [hk, ne_eq, not_false_eq_true, and_self])), (by (with_reducible repeat (first | apply Kd.R_alloc | apply Kd.R_drewN | apply Kd.R_drew)); exact Kd.R_mono HO254.out (fun _ hk => by first | exact ⟨hk.1.1, ⟨hk.2, ⟨hk.1.2.1, hk.1.2.2⟩⟩⟩ | exact hk.1 | exact hk | exact ⟨hk.1, hk.2⟩ | exact ⟨.inr hk.1, hk.2⟩ | simp only [hk, ne_eq, not_false_eq_true, and_self])), (u_ BK238.out), (us_ HB.out)⟩)
   skip
   rintro ⟨v244, v247, v253⟩ w17 ⟨hS_, h0_, h1_, h2_, h3_, h4_, h5_⟩
   have n0_ : Aside0 (Kd.V (Kd.int .u8) 5 w17 w.heap.size (fun k_ => (P0_10_ k_ ∨ w.heap.size ≤ k_) ∧ some k_ ≠ (v244 : Value).ownBlock ∧ some k_ ≠ (v247 : Value).ownBlock ∧ some k_ ≠ (v253 : Value).ownBlock ∧ k_ ≠ gb238) (.slice A0_10 l0_10.length c0_10) l0_10) := ⟨h0_⟩
   have n1_ : Aside0 (Kd.R (Kd.int .u8) 5 w17 w.heap.size (fun k_ => (w.heap.size ≤ k_) ∧ some k_ ≠ (v247 : Value).ownBlock ∧ some k_ ≠ (v253 : Value).ownBlock) v244 y243) := ⟨h1_⟩
   have n2_ : Aside0 (Kd.R (Kd.int .u8) 5 w17 w.heap.size (fun k_ => (w.heap.size ≤ k_) ∧ some k_ ≠ (v244 : Value).ownBlock ∧ some k_ ≠ (v253 : Value).ownBlock) v247 t246) := ⟨h2_⟩
   have n3_ : Aside0 (Kd.R (Kd.int .u8) 5 w17 w.heap.size (fun k_ => (w.heap.size ≤ k_) ∧ some k_ ≠ (v244 : Value).ownBlock ∧ some k_ ≠ (v247 : Value).ownBlock) v253 y252) := ⟨h3_⟩
   have n4_ : Aside0 (w17.heap[gb238]? = some (.cells #[.int .i64 a0_0, .int .i64 a0_1, .int .i64 a0_2, .int .i64 a0_3, .int .i64 a0_4, .bool a0_5, .bool a0_6, .bool a0_7, .bool a0_8, .slice A0_9 l0_9.length c0_9, .slice A0_10 l0_10.length c0_10] 31 (0, 0))) := ⟨h4_⟩
   have n5_ : Aside0 (Below w.heap.size w w17) := ⟨h5_⟩
   clear HO0_10
   clear BK238
   clear HB
   clear h0_ h1_ h2_ h3_ h4_ h5_
   have HO0_10 := n0_
   have HO245 := n1_
   have HO248 := n2_
   have HO254 := n3_
   have BK238 := n4_
   have HB := n5_
   clear n0_ n1_ n2_ n3_ n4_ n5_
   have hHeld : w17.cell? ⟨gb238, 0, none⟩ = some (.int .i64 a0_0) ∧ w17.cell? ⟨gb238, 1, none⟩ = some (.int .i64 a0_1) ∧ w17.cell? ⟨gb238, 2, none⟩ = some (.int .i64 a0_2) ∧ w17.cell? ⟨gb238, 3, none⟩ = some (.int .i64 a0_3) ∧ w17.cell? ⟨gb238, 4, none⟩ = some (.int .i64 a0_4) ∧ w17.cell? ⟨gb238, 5, none⟩ = some (.bool a0_5) ∧ w17.cell? ⟨gb238, 6, none⟩ = some (.bool a0_6) ∧ w17.cell? ⟨gb238, 7, none⟩ = some (.bool a0_7) ∧ w17.cell? ⟨gb238, 8, none⟩ = some (.bool a0_8) ∧ w17.cell? ⟨gb238, 9, none⟩ = some (.slice A0_9 l0_9.length c0_9) ∧ w17.cell? ⟨gb238, 10, none⟩ = some (.slice A0_10 l0_10.length c0_10) := hS_
   refine norm_ (a' := ?_) ?_ ?_
   rotate_left
   ·simp only [putAll, Act.put, la_, lz_, ls_]
    rfl
   refine one_ (i := 12) (N := some 34) #[T_, T_, T_, T_, T_, T_, T_, T_, T_, T_, T_, T_, T_, T_, T_, T_, T_, T_, T_, T_, T_, T_, T_, F_, F_, F_] rfl rfl (one_of HT_.out (by kernel_rfl)) (by decide) (fun K hK => ?_)
   refine goes_ Try.func63 (by kernel_rfl) rfl #[.int .i64 a0_3, .int .i64 2] (by rfl) rfl rfl (by (try simp only [lm_, lo_, ln_]); first | done | rfl | (simp only [List.length_drop, List.length_take]; rfl)) ?_
   with_reducible refine (impl_bytesOf.calls k a0_3 2 t249 _ A7.out).mono ?_
   rintro e w18 ⟨v250, rfl, ho0, hb⟩
   refine ⟨_, rfl, ?_⟩
   have n0_ := mk_ (Kd.V_elder' (by (with_reducible repeat (first | apply Kd.V_alloc | apply Kd.V_drewN | apply Kd.V_drew)); exact HO0_10.out) (Kd.R_base ho0) hb)
   have n1_ := mk_ (Kd.R_elder' (Kd.ur_ HO245.out) (Kd.R_base ho0) hb)
   have n2_ := mk_ (Kd.R_elder' (Kd.ur_ HO248.out) (Kd.R_base ho0) hb)
   have n3_ := mk_ (Kd.R_elder' (Kd.ur_ HO254.out) (Kd.R_base ho0) hb)
   have n4_ := mk_ (Kd.R_lower (Kd.R_new' (Kd.R_new' (Kd.R_new' (Kd.R_newM (M := fun k_ => (w.heap.size ≤ k_)) ho0 (below_size (us_ HB.out)) (fun k_ h_ => h_)) (Kd.R_lt (Kd.ur_ HO245.out))) (Kd.R_lt (Kd.ur_ HO248.out))) (Kd.R_lt (Kd.ur_ HO254.out))) (below_size (us_ HB.out)))
   have n5_ := mk_ (blk_below (u_ BK238.out) hb)
   have n6_ := mk_ (below_step (us_ HB.out) hb)
   clear HO0_10
   clear HO245
   clear HO248
   clear HO254
   clear BK238
   clear HB
   have HO0_10 := n0_
   have HO245 := n1_
   have HO248 := n2_
   have HO254 := n3_
   have HO251 := n4_
   have BK238 := n5_
   have HB := n6_
   clear n0_ n1_ n2_ n3_ n4_ n5_ n6_
   (try clear hb)
   (try clear hb2)
   (try clear hk)
   (try clear hi)
   (try clear ho0)
   refine hK.out _ _ ⟨(blk_cell BK238.out 0).trans rfl, (blk_cell BK238.out 1).trans rfl, (blk_cell BK238.out 2).trans rfl, (blk_cell BK238.out 3).trans rfl, (blk_cell BK238.out 4).trans rfl, (blk_cell BK238.out 5).trans rfl, (blk_cell BK238.out 6).trans rfl, (blk_cell BK238.out 7).trans rfl, (blk_cell BK238.out 8).trans rfl, (blk_cell BK238.out 9).trans rfl, (blk_cell BK238.out 10).trans rfl⟩ (fun hHeld => ?_)
   clear hK K
   refine norm_ (a' := ?_) ?_ ?_
   rotate_left
   ·show Act.put _ (some 34) _ = _
    simp only [Act.put, la_, lz_, ls_, i64_w, i32_w]
    rfl
   exact norm_ (by first | (simp only [putAll, Act.put, la_, lz_, ls_]; done) | (simp only [putAll, Act.put, la_, lz_, ls_]; rfl)) (hJ6_9_12_22 (v244, v247, v250, v253) _ ⟨hHeld, (by (with_reducible repeat (first | apply Kd.V_alloc | apply Kd.V_drewN | apply Kd.V_drew)); exact Kd.V_mono HO0_10.out (fun _ hk => by first | exact ⟨hk.1.1, ⟨hk.1.2.1, ⟨hk.1.2.2.1, ⟨hk.2, ⟨hk.1.2.2.2.1, hk.1.2.2.2.2⟩⟩⟩⟩⟩ | exact hk.1 | exact hk | exact ⟨hk.1, hk.2⟩ | exact ⟨.inr hk.1, hk.2⟩ | simp only [hk, ne_eq, not_false_eq_true, and_self])), (by (with_reducible repeat (first | apply Kd.R_alloc | apply Kd.R_drewN | apply Kd.R_drew)); exact Kd.R_mono HO245.out (fun _ hk => by first | exact ⟨hk.1.1, ⟨hk.1.2.1, ⟨hk.2, hk.1.2.2⟩⟩⟩ | exact hk.1 | exact hk | exact ⟨hk.1, hk.2⟩ | exact ⟨.inr hk.1, hk.2⟩ | simp only [hk, ne_eq, not_false_eq_true, and_self])), (by (with_reducible repeat (first | apply Kd.R_alloc | apply Kd.R_drewN | apply Kd.R_drew)); exact Kd.R_mono HO248.out (fun _ hk => by first | exact ⟨hk.1.1, ⟨hk.1.2.1, ⟨hk.2, hk.1.2.2⟩⟩⟩ | exact hk.1 | exact hk | exact ⟨hk.1, hk.2⟩ | exact ⟨.inr hk.1, hk.2⟩ | simp only [hk, ne_eq, not_false_eq_true, and_self])), (by (with_reducible repeat (first | apply Kd.R_alloc | apply Kd.R_drewN | apply Kd.R_drew)); exact Kd.R_mono HO251.out (fun _ hk => by first | exact ⟨hk.1.1.1.1, ⟨hk.1.1.2, ⟨hk.1.2, hk.2⟩⟩⟩ | exact hk.1 | exact hk | exact ⟨hk.1, hk.2⟩ | exact ⟨.inr hk.1, hk.2⟩ | simp only [hk, ne_eq, not_false_eq_true, and_self])), (by (with_reducible repeat (first | apply Kd.R_alloc | apply Kd.R_drewN | apply Kd.R_drew)); exact Kd.R_mono HO254.out (fun _ hk => by first | exact ⟨hk.1.1, ⟨hk.1.2.1, ⟨hk.1.2.2, hk.2⟩⟩⟩ | exact hk.1 | exact hk | exact ⟨hk.1, hk.2⟩ | exact ⟨.inr hk.1, hk.2⟩ | simp only [hk, ne_eq, not_false_eq_true, and_self])), (u_ BK238.out), (us_ HB.out)⟩)
  skip
  rintro ⟨v244, v247, v250⟩ w16 ⟨hS_, h0_, h1_, h2_, h3_, h4_, h5_⟩
  have n0_ : Aside0 (Kd.V (Kd.int .u8) 5 w16 w.heap.size (fun k_ => (P0_10_ k_ ∨ w.heap.size ≤ k_) ∧ some k_ ≠ (v244 : Value).ownBlock ∧ some k_ ≠ (v247 : Value).ownBlock ∧ some k_ ≠ (v250 : Value).ownBlock ∧ k_ ≠ gb238) (.slice A0_10 l0_10.length c0_10) l0_10) := ⟨h0_⟩
  have n1_ : Aside0 (Kd.R (Kd.int .u8) 5 w16 w.heap.size (fun k_ => (w.heap.size ≤ k_) ∧ some k_ ≠ (v247 : Value).ownBlock ∧ some k_ ≠ (v250 : Value).ownBlock) v244 y243) := ⟨h1_⟩
  have n2_ : Aside0 (Kd.R (Kd.int .u8) 5 w16 w.heap.size (fun k_ => (w.heap.size ≤ k_) ∧ some k_ ≠ (v244 : Value).ownBlock ∧ some k_ ≠ (v250 : Value).ownBlock) v247 t246) := ⟨h2_⟩
  have n3_ : Aside0 (Kd.R (Kd.int .u8) 5 w16 w.heap.size (fun k_ => (w.heap.size ≤ k_) ∧ some k_ ≠ (v244 : Value).ownBlock ∧ some k_ ≠ (v247 : Value).ownBlock) v250 t249) := ⟨h3_⟩
  have n4_ : Aside0 (w16.heap[gb238]? = some (.cells #[.int .i64 a0_0, .int .i64 a0_1, .int .i64 a0_2, .int .i64 a0_3, .int .i64 a0_4, .bool a0_5, .bool a0_6, .bool a0_7, .bool a0_8, .slice A0_9 l0_9.length c0_9, .slice A0_10 l0_10.length c0_10] 31 (0, 0))) := ⟨h4_⟩
  have n5_ : Aside0 (Below w.heap.size w w16) := ⟨h5_⟩
  clear HO0_10
  clear BK238
  clear HB
  clear h0_ h1_ h2_ h3_ h4_ h5_
  have HO0_10 := n0_
  have HO245 := n1_
  have HO248 := n2_
  have HO251 := n3_
  have BK238 := n4_
  have HB := n5_
  clear n0_ n1_ n2_ n3_ n4_ n5_
  have hHeld : w16.cell? ⟨gb238, 0, none⟩ = some (.int .i64 a0_0) ∧ w16.cell? ⟨gb238, 1, none⟩ = some (.int .i64 a0_1) ∧ w16.cell? ⟨gb238, 2, none⟩ = some (.int .i64 a0_2) ∧ w16.cell? ⟨gb238, 3, none⟩ = some (.int .i64 a0_3) ∧ w16.cell? ⟨gb238, 4, none⟩ = some (.int .i64 a0_4) ∧ w16.cell? ⟨gb238, 5, none⟩ = some (.bool a0_5) ∧ w16.cell? ⟨gb238, 6, none⟩ = some (.bool a0_6) ∧ w16.cell? ⟨gb238, 7, none⟩ = some (.bool a0_7) ∧ w16.cell? ⟨gb238, 8, none⟩ = some (.bool a0_8) ∧ w16.cell? ⟨gb238, 9, none⟩ = some (.slice A0_9 l0_9.length c0_9) ∧ w16.cell? ⟨gb238, 10, none⟩ = some (.slice A0_10 l0_10.length c0_10) := hS_
  refine norm_ (a' := ?_) ?_ ?_
  rotate_left
  ·simp only [putAll, Act.put, la_, lz_, ls_]
   rfl
  refine one_ (i := 22) (N := some 44) #[T_, T_, T_, T_, T_, T_, T_, T_, T_, T_, T_, T_, T_, T_, T_, T_, T_, T_, T_, T_, T_, T_, T_, F_, F_, F_] rfl rfl (one_of HT_.out (by kernel_rfl)) (by decide) (fun K hK => ?_)
  refine Kd.R_lit_step (Kd.int .u8) _ 5 ?hg (N := 44) ?hd (xs := ([(a0_4) % 256, (wrap64 ((wrap64 ((wrap64 (t239 + t240)) + t241)) + t242)) % 256, ((l0_9.length : Int)) % 256] : List Int)) (inner := [.int .u8 ((a0_4) % 256), .int .u8 ((wrap64 ((wrap64 ((wrap64 (t239 + t240)) + t241)) + t242)) % 256), .int .u8 (((l0_9.length : Int)) % 256)]) (ok := fun _ => True) (okp := fun _ => True) ?hr ?hp (fun _ hk => hk) trivial (Below.refl _ _) (Nat.le_refl _) (by simp) ?_; (case hd => rfl); (case hg => rfl); (case hr => first | (go_simp; done) | (go_simp; rfl)); (case hp => exact (Reps.one (show Kd.M (Kd.int .u8) _ _ _ ((a0_4) % 256) [.int .u8 ((a0_4) % 256)] from rfl) (Reps.one (show Kd.M (Kd.int .u8) _ _ _ ((wrap64 ((wrap64 ((wrap64 (t239 + t240)) + t241)) + t242)) % 256) [.int .u8 ((wrap64 ((wrap64 ((wrap64 (t239 + t240)) + t241)) + t242)) % 256)] from rfl) (Reps.one (show Kd.M (Kd.int .u8) _ _ _ (((l0_9.length : Int)) % 256) [.int .u8 (((l0_9.length : Int)) % 256)] from rfl) (Reps.none _ _)))))
  intro v253 w17 ho18 hb hg_ hnew_
  clear hg_ hnew_
  (first | rw [← Ny252.out] at ho18 | (simp only [Int.reduceToNat] at ho18; rw [← Ny252.out] at ho18))
  have n0_ := mk_ (Kd.V_elder' (by (with_reducible repeat (first | apply Kd.V_alloc | apply Kd.V_drewN | apply Kd.V_drew)); exact HO0_10.out) (Kd.R_base ho18) hb)
  have n1_ := mk_ (Kd.R_elder' (Kd.ur_ HO245.out) (Kd.R_base ho18) hb)
  have n2_ := mk_ (Kd.R_elder' (Kd.ur_ HO248.out) (Kd.R_base ho18) hb)
  have n3_ := mk_ (Kd.R_elder' (Kd.ur_ HO251.out) (Kd.R_base ho18) hb)
  have n4_ := mk_ (Kd.R_lower (Kd.R_new' (Kd.R_new' (Kd.R_new' (Kd.R_newM (M := fun k_ => (w.heap.size ≤ k_)) ho18 (below_size (us_ HB.out)) (fun k_ h_ => h_)) (Kd.R_lt (Kd.ur_ HO245.out))) (Kd.R_lt (Kd.ur_ HO248.out))) (Kd.R_lt (Kd.ur_ HO251.out))) (below_size (us_ HB.out)))
  have n5_ := mk_ (blk_below (u_ BK238.out) hb)
  have n6_ := mk_ (below_step (us_ HB.out) hb)
  clear HO0_10
  clear HO245
  clear HO248
  clear HO251
  clear BK238
  clear HB
  have HO0_10 := n0_
  have HO245 := n1_
  have HO248 := n2_
  have HO251 := n3_
  have HO254 := n4_
  have BK238 := n5_
  have HB := n6_
  clear n0_ n1_ n2_ n3_ n4_ n5_ n6_
  clear hb ho18
  refine hK.out _ _ ⟨(blk_cell BK238.out 0).trans rfl, (blk_cell BK238.out 1).trans rfl, (blk_cell BK238.out 2).trans rfl, (blk_cell BK238.out 3).trans rfl, (blk_cell BK238.out 4).trans rfl, (blk_cell BK238.out 5).trans rfl, (blk_cell BK238.out 6).trans rfl, (blk_cell BK238.out 7).trans rfl, (blk_cell BK238.out 8).trans rfl, (blk_cell BK238.out 9).trans rfl, (blk_cell BK238.out 10).trans rfl⟩ (fun hHeld => ?_)
  clear hK K
  refine norm_ (a' := ?_) ?_ ?_
  rotate_left
  ·show Act.put _ (some 44) _ = _
   simp only [Act.put, la_, lz_, ls_, i64_w, i32_w]
   rfl
  exact norm_ (by first | (simp only [putAll, Act.put, la_, lz_, ls_]; done) | (simp only [putAll, Act.put, la_, lz_, ls_]; rfl)) (hJ6_9_12_22 (v244, v247, v250, v253) _ ⟨hHeld, (by (with_reducible repeat (first | apply Kd.V_alloc | apply Kd.V_drewN | apply Kd.V_drew)); exact Kd.V_mono HO0_10.out (fun _ hk => by first | exact ⟨hk.1.1, ⟨hk.1.2.1, ⟨hk.1.2.2.1, ⟨hk.1.2.2.2.1, ⟨hk.2, hk.1.2.2.2.2⟩⟩⟩⟩⟩ | exact hk.1 | exact hk | exact ⟨hk.1, hk.2⟩ | exact ⟨.inr hk.1, hk.2⟩ | simp only [hk, ne_eq, not_false_eq_true, and_self])), (by (with_reducible repeat (first | apply Kd.R_alloc | apply Kd.R_drewN | apply Kd.R_drew)); exact Kd.R_mono HO245.out (fun _ hk => by first | exact ⟨hk.1.1, ⟨hk.1.2.1, ⟨hk.1.2.2, hk.2⟩⟩⟩ | exact hk.1 | exact hk | exact ⟨hk.1, hk.2⟩ | exact ⟨.inr hk.1, hk.2⟩ | simp only [hk, ne_eq, not_false_eq_true, and_self])), (by (with_reducible repeat (first | apply Kd.R_alloc | apply Kd.R_drewN | apply Kd.R_drew)); exact Kd.R_mono HO248.out (fun _ hk => by first | exact ⟨hk.1.1, ⟨hk.1.2.1, ⟨hk.1.2.2, hk.2⟩⟩⟩ | exact hk.1 | exact hk | exact ⟨hk.1, hk.2⟩ | exact ⟨.inr hk.1, hk.2⟩ | simp only [hk, ne_eq, not_false_eq_true, and_self])), (by (with_reducible repeat (first | apply Kd.R_alloc | apply Kd.R_drewN | apply Kd.R_drew)); exact Kd.R_mono HO251.out (fun _ hk => by first | exact ⟨hk.1.1, ⟨hk.1.2.1, ⟨hk.1.2.2, hk.2⟩⟩⟩ | exact hk.1 | exact hk | exact ⟨hk.1, hk.2⟩ | exact ⟨.inr hk.1, hk.2⟩ | simp only [hk, ne_eq, not_false_eq_true, and_self])), (by (with_reducible repeat (first | apply Kd.R_alloc | apply Kd.R_drewN | apply Kd.R_drew)); exact Kd.R_mono HO254.out (fun _ hk => by first | exact ⟨hk.1.1.1.1, ⟨hk.1.1.2, ⟨hk.1.2, hk.2⟩⟩⟩ | exact hk.1 | exact hk | exact ⟨hk.1, hk.2⟩ | exact ⟨.inr hk.1, hk.2⟩ | simp only [hk, ne_eq, not_false_eq_true, and_self])), (u_ BK238.out), (us_ HB.out)⟩)
 rintro ⟨v244, v247, v250, v253⟩ w18 ⟨hS_, h0_, h1_, h2_, h3_, h4_, h5_, h6_⟩
 have n0_ : Aside0 (Kd.V (Kd.int .u8) 5 w18 w.heap.size (fun k_ => (P0_10_ k_ ∨ w.heap.size ≤ k_) ∧ some k_ ≠ (v244 : Value).ownBlock ∧ some k_ ≠ (v247 : Value).ownBlock ∧ some k_ ≠ (v250 : Value).ownBlock ∧ some k_ ≠ (v253 : Value).ownBlock ∧ k_ ≠ gb238) (.slice A0_10 l0_10.length c0_10) l0_10) := ⟨h0_⟩
 have n1_ : Aside0 (Kd.R (Kd.int .u8) 5 w18 w.heap.size (fun k_ => (w.heap.size ≤ k_) ∧ some k_ ≠ (v247 : Value).ownBlock ∧ some k_ ≠ (v250 : Value).ownBlock ∧ some k_ ≠ (v253 : Value).ownBlock) v244 y243) := ⟨h1_⟩
 have n2_ : Aside0 (Kd.R (Kd.int .u8) 5 w18 w.heap.size (fun k_ => (w.heap.size ≤ k_) ∧ some k_ ≠ (v244 : Value).ownBlock ∧ some k_ ≠ (v250 : Value).ownBlock ∧ some k_ ≠ (v253 : Value).ownBlock) v247 t246) := ⟨h2_⟩
 have n3_ : Aside0 (Kd.R (Kd.int .u8) 5 w18 w.heap.size (fun k_ => (w.heap.size ≤ k_) ∧ some k_ ≠ (v244 : Value).ownBlock ∧ some k_ ≠ (v247 : Value).ownBlock ∧ some k_ ≠ (v253 : Value).ownBlock) v250 t249) := ⟨h3_⟩
 have n4_ : Aside0 (Kd.R (Kd.int .u8) 5 w18 w.heap.size (fun k_ => (w.heap.size ≤ k_) ∧ some k_ ≠ (v244 : Value).ownBlock ∧ some k_ ≠ (v247 : Value).ownBlock ∧ some k_ ≠ (v250 : Value).ownBlock) v253 y252) := ⟨h4_⟩
 have n5_ : Aside0 (w18.heap[gb238]? = some (.cells #[.int .i64 a0_0, .int .i64 a0_1, .int .i64 a0_2, .int .i64 a0_3, .int .i64 a0_4, .bool a0_5, .bool a0_6, .bool a0_7, .bool a0_8, .slice A0_9 l0_9.length c0_9, .slice A0_10 l0_10.length c0_10] 31 (0, 0))) := ⟨h5_⟩
 have n6_ : Aside0 (Below w.heap.size w w18) := ⟨h6_⟩
 clear HO0_10
 clear BK238
 clear HB
 clear h0_ h1_ h2_ h3_ h4_ h5_ h6_
 have HO0_10 := n0_
 have HO245 := n1_
 have HO248 := n2_
 have HO251 := n3_
 have HO254 := n4_
 have BK238 := n5_
 have HB := n6_
 clear n0_ n1_ n2_ n3_ n4_ n5_ n6_
 have hHeld : w18.cell? ⟨gb238, 0, none⟩ = some (.int .i64 a0_0) ∧ w18.cell? ⟨gb238, 1, none⟩ = some (.int .i64 a0_1) ∧ w18.cell? ⟨gb238, 2, none⟩ = some (.int .i64 a0_2) ∧ w18.cell? ⟨gb238, 3, none⟩ = some (.int .i64 a0_3) ∧ w18.cell? ⟨gb238, 4, none⟩ = some (.int .i64 a0_4) ∧ w18.cell? ⟨gb238, 5, none⟩ = some (.bool a0_5) ∧ w18.cell? ⟨gb238, 6, none⟩ = some (.bool a0_6) ∧ w18.cell? ⟨gb238, 7, none⟩ = some (.bool a0_7) ∧ w18.cell? ⟨gb238, 8, none⟩ = some (.bool a0_8) ∧ w18.cell? ⟨gb238, 9, none⟩ = some (.slice A0_9 l0_9.length c0_9) ∧ w18.cell? ⟨gb238, 10, none⟩ = some (.slice A0_10 l0_10.length c0_10) := hS_
 obtain ⟨Ao19, co19, eo19⟩ := Kd.R_slice HO245.out
 (first | subst eo19 | (injection eo19 with f1_ f2_ f3_; have f4_ := f1_.symm; have f5_ := f3_.symm; clear f1_ f2_ f3_; subst f4_; subst f5_))
 obtain ⟨Ao20, co20, eo20⟩ := Kd.R_slice HO248.out
 (first | subst eo20 | (injection eo20 with f1_ f2_ f3_; have f4_ := f1_.symm; have f5_ := f3_.symm; clear f1_ f2_ f3_; subst f4_; subst f5_))
 obtain ⟨Ao21, co21, eo21⟩ := Kd.R_slice HO251.out
 (first | subst eo21 | (injection eo21 with f1_ f2_ f3_; have f4_ := f1_.symm; have f5_ := f3_.symm; clear f1_ f2_ f3_; subst f4_; subst f5_))
 obtain ⟨Ao22, co22, eo22⟩ := Kd.R_slice HO254.out
 (first | subst eo22 | (injection eo22 with f1_ f2_ f3_; have f4_ := f1_.symm; have f5_ := f3_.symm; clear f1_ f2_ f3_; subst f4_; subst f5_))
 refine norm_ (a' := ?_) ?_ ?_
 rotate_left
 ·simp only [putAll, Act.put, la_, lz_, ls_]
  rfl
 refine one_ (i := 23) (N := some 45) #[T_, T_, T_, T_, T_, T_, T_, T_, T_, T_, T_, T_, T_, T_, T_, T_, T_, T_, T_, T_, T_, T_, T_, T_, F_, F_] rfl rfl (one_of HT_.out (by kernel_rfl)) (by decide) (fun K hK => ?_)
 refine Kd.N_lit_step (Kd.slice 5 (Kd.int .u8)) _ 22 ?hg (N' := 45) ?hd (xs := ([y243, t246, t249, y252] : List (List Int))) (inner := [.slice Ao19 y243.length co19, .slice Ao20 t246.length co20, .slice Ao21 t249.length co21, .slice Ao22 y252.length co22]) (ok := (fun k_ => (P0_10_ k_ ∨ w.heap.size ≤ k_) ∧ k_ ≠ gb238)) (okp := (fun k_ => (P0_10_ k_ ∨ w.heap.size ≤ k_) ∧ k_ ≠ gb238)) ?hr ?hp (fun _ hk => hk) ((show ∀ k_, w18.heap.size ≤ k_ → (fun k_ => (P0_10_ k_ ∨ w.heap.size ≤ k_) ∧ k_ ≠ gb238) k_ from fun k_ hk => ⟨(.inr (Nat.le_trans (below_size (us_ HB.out)) hk)), Kd.freshB (g := gb238) (o := .cells #[.int .i64 a0_0, .int .i64 a0_1, .int .i64 a0_2, .int .i64 a0_3, .int .i64 a0_4, .bool a0_5, .bool a0_6, .bool a0_7, .bool a0_8, .slice A0_9 l0_9.length c0_9, .slice A0_10 l0_10.length c0_10] 31 (0, 0)) (u_ BK238.out) k_ hk⟩) _ (Nat.le_refl _)) (Below.refl _ _) (Nat.le_refl _) (by simp) ?_; (case hd => rfl); (case hg => rfl); (case hr => first | (go_simp; done) | (go_simp; rfl)); (case hp => exact (Reps.one (show Kd.FK (Kd.slice 5 (Kd.int .u8)) _ _ y243 [.slice Ao19 y243.length co19] from (Kd.FK_slice_mk (Kd.R_reads' (Kd.R_mono (ok' := (fun k_ => (P0_10_ k_ ∨ w.heap.size ≤ k_) ∧ k_ ≠ gb238)) (Kd.R_types (HO245.out) BK238.out (by decide)) (fun k_ hk => by first | exact ⟨(.inr (hk.1.1)), hk.2⟩ | exact hk.1 | exact hk | exact ⟨hk.1, hk.2⟩ | exact ⟨.inr hk.1, hk.2⟩ | simp only [hk, ne_eq, not_false_eq_true, and_self]))).2.1 (Kd.R_F (Kd.R_mono (ok' := (fun k_ => (P0_10_ k_ ∨ w.heap.size ≤ k_) ∧ k_ ≠ gb238)) (Kd.R_types (HO245.out) BK238.out (by decide)) (fun k_ hk => by first | exact ⟨(.inr (hk.1.1)), hk.2⟩ | exact hk.1 | exact hk | exact ⟨hk.1, hk.2⟩ | exact ⟨.inr hk.1, hk.2⟩ | simp only [hk, ne_eq, not_false_eq_true, and_self]))))) (Reps.one (show Kd.FK (Kd.slice 5 (Kd.int .u8)) _ _ t246 [.slice Ao20 t246.length co20] from (Kd.FK_slice_mk (Kd.R_reads' (Kd.R_mono (ok' := (fun k_ => (P0_10_ k_ ∨ w.heap.size ≤ k_) ∧ k_ ≠ gb238)) (Kd.R_types (HO248.out) BK238.out (by decide)) (fun k_ hk => by first | exact ⟨(.inr (hk.1.1)), hk.2⟩ | exact hk.1 | exact hk | exact ⟨hk.1, hk.2⟩ | exact ⟨.inr hk.1, hk.2⟩ | simp only [hk, ne_eq, not_false_eq_true, and_self]))).2.1 (Kd.R_F (Kd.R_mono (ok' := (fun k_ => (P0_10_ k_ ∨ w.heap.size ≤ k_) ∧ k_ ≠ gb238)) (Kd.R_types (HO248.out) BK238.out (by decide)) (fun k_ hk => by first | exact ⟨(.inr (hk.1.1)), hk.2⟩ | exact hk.1 | exact hk | exact ⟨hk.1, hk.2⟩ | exact ⟨.inr hk.1, hk.2⟩ | simp only [hk, ne_eq, not_false_eq_true, and_self]))))) (Reps.one (show Kd.FK (Kd.slice 5 (Kd.int .u8)) _ _ t249 [.slice Ao21 t249.length co21] from (Kd.FK_slice_mk (Kd.R_reads' (Kd.R_mono (ok' := (fun k_ => (P0_10_ k_ ∨ w.heap.size ≤ k_) ∧ k_ ≠ gb238)) (Kd.R_types (HO251.out) BK238.out (by decide)) (fun k_ hk => by first | exact ⟨(.inr (hk.1.1)), hk.2⟩ | exact hk.1 | exact hk | exact ⟨hk.1, hk.2⟩ | exact ⟨.inr hk.1, hk.2⟩ | simp only [hk, ne_eq, not_false_eq_true, and_self]))).2.1 (Kd.R_F (Kd.R_mono (ok' := (fun k_ => (P0_10_ k_ ∨ w.heap.size ≤ k_) ∧ k_ ≠ gb238)) (Kd.R_types (HO251.out) BK238.out (by decide)) (fun k_ hk => by first | exact ⟨(.inr (hk.1.1)), hk.2⟩ | exact hk.1 | exact hk | exact ⟨hk.1, hk.2⟩ | exact ⟨.inr hk.1, hk.2⟩ | simp only [hk, ne_eq, not_false_eq_true, and_self]))))) (Reps.one (show Kd.FK (Kd.slice 5 (Kd.int .u8)) _ _ y252 [.slice Ao22 y252.length co22] from (Kd.FK_slice_mk (Kd.R_reads' (Kd.R_mono (ok' := (fun k_ => (P0_10_ k_ ∨ w.heap.size ≤ k_) ∧ k_ ≠ gb238)) (Kd.R_types (HO254.out) BK238.out (by decide)) (fun k_ hk => by first | exact ⟨(.inr (hk.1.1)), hk.2⟩ | exact hk.1 | exact hk | exact ⟨hk.1, hk.2⟩ | exact ⟨.inr hk.1, hk.2⟩ | simp only [hk, ne_eq, not_false_eq_true, and_self]))).2.1 (Kd.R_F (Kd.R_mono (ok' := (fun k_ => (P0_10_ k_ ∨ w.heap.size ≤ k_) ∧ k_ ≠ gb238)) (Kd.R_types (HO254.out) BK238.out (by decide)) (fun k_ hk => by first | exact ⟨(.inr (hk.1.1)), hk.2⟩ | exact hk.1 | exact hk | exact ⟨hk.1, hk.2⟩ | exact ⟨.inr hk.1, hk.2⟩ | simp only [hk, ne_eq, not_false_eq_true, and_self]))))) (Reps.none _ _))))))
 intro v256 w23 ho24 hb hg_ hnew_
 clear hg_ hnew_
 (first | rw [← Ny255.out] at ho24 | (simp only [Int.reduceToNat] at ho24; rw [← Ny255.out] at ho24))
 have n0_ := mk_ (Kd.V_elder' (by (with_reducible repeat (first | apply Kd.V_alloc | apply Kd.V_drewN | apply Kd.V_drew)); exact HO0_10.out) (Kd.N_base ho24) hb)
 have n1_ := mk_ (Kd.N_lower ho24 (below_size (us_ HB.out)))
 have n2_ := mk_ (blk_below (u_ BK238.out) hb)
 have n3_ := mk_ (below_step (us_ HB.out) hb)
 clear HO0_10
 clear BK238
 clear HB
 clear HO245
 clear HO248
 clear HO251
 clear HO254
 have HO0_10 := n0_
 have HO257 := n1_
 have BK238 := n2_
 have HB := n3_
 clear n0_ n1_ n2_ n3_
 clear hb ho24
 obtain ⟨Ao25, co25, eo25⟩ := Kd.N_slice HO257.out
 (first | subst eo25 | (injection eo25 with f1_ f2_ f3_; have f4_ := f1_.symm; have f5_ := f3_.symm; clear f1_ f2_ f3_; subst f4_; subst f5_))
 refine hK.out _ _ ⟨(blk_cell BK238.out 0).trans rfl, (blk_cell BK238.out 1).trans rfl, (blk_cell BK238.out 2).trans rfl, (blk_cell BK238.out 3).trans rfl, (blk_cell BK238.out 4).trans rfl, (blk_cell BK238.out 5).trans rfl, (blk_cell BK238.out 6).trans rfl, (blk_cell BK238.out 7).trans rfl, (blk_cell BK238.out 8).trans rfl, (blk_cell BK238.out 9).trans rfl, (blk_cell BK238.out 10).trans rfl⟩ (fun hHeld => ?_)
 clear hK K
 refine norm_ (a' := ?_) ?_ ?_
 rotate_left
 ·show Act.put _ (some 45) _ = _
  simp only [Act.put, la_, lz_, ls_, i64_w, i32_w]
  rfl
 refine one_ (i := 24) (N := some 46) #[T_, T_, T_, T_, T_, T_, T_, T_, T_, T_, T_, T_, T_, T_, T_, T_, T_, T_, T_, T_, T_, T_, T_, T_, T_, F_] rfl rfl (one_of HT_.out (by kernel_rfl)) (by decide) (fun K hK => ?_)
 refine goes_ Try.func62 (by kernel_rfl) rfl #[.slice Ao25 y255.length co25] (by rfl) rfl rfl (by (try simp only [lm_, lo_, ln_]); first | done | rfl | (simp only [List.length_drop, List.length_take]; rfl)) ?_
 with_reducible refine (slices_Concat_byte_byte.calls _ _ y255 t258 _ ?side1 ?side2 A8.out).mono ?_
 (case side1 => repeat (first | exact (Kd.N_reads' HO257.out).2.2 | (with_reducible refine Kd.C_alloc ?_ _) | (with_reducible refine Kd.C_drewN ?_ _) | (with_reducible refine Kd.C_drew ?_)))
 (case side2 => exact (Kd.N_reads' HO257.out).2.1)
 rintro e w26 ⟨v259, rfl, ho0, hb⟩
 refine ⟨_, rfl, ?_⟩
 have n0_ := mk_ (Kd.V_elder' (by (with_reducible repeat (first | apply Kd.V_alloc | apply Kd.V_drewN | apply Kd.V_drew)); exact HO0_10.out) (Kd.R_base ho0) hb)
 have n1_ := mk_ (Kd.N_elder' (by (with_reducible repeat (first | apply Kd.N_alloc | apply Kd.N_drewN | apply Kd.N_drew)); exact HO257.out) (Kd.R_base ho0) hb)
 have n2_ := mk_ (Kd.R_lower (Kd.R_newM (M := fun k_ => (w.heap.size ≤ k_)) ho0 (below_size (us_ HB.out)) (fun k_ h_ => h_)) (below_size (us_ HB.out)))
 have n3_ := mk_ (blk_below (u_ BK238.out) hb)
 have n4_ := mk_ (below_step (us_ HB.out) hb)
 clear HO0_10
 clear HO257
 clear BK238
 clear HB
 have HO0_10 := n0_
 have HO257 := n1_
 have HO260 := n2_
 have BK238 := n3_
 have HB := n4_
 clear n0_ n1_ n2_ n3_ n4_
 (try clear hb)
 (try clear hb2)
 (try clear hk)
 (try clear hi)
 (try clear ho0)
 refine hK.out _ _ ⟨(blk_cell BK238.out 0).trans rfl, (blk_cell BK238.out 1).trans rfl, (blk_cell BK238.out 2).trans rfl, (blk_cell BK238.out 3).trans rfl, (blk_cell BK238.out 4).trans rfl, (blk_cell BK238.out 5).trans rfl, (blk_cell BK238.out 6).trans rfl, (blk_cell BK238.out 7).trans rfl, (blk_cell BK238.out 8).trans rfl, (blk_cell BK238.out 9).trans rfl, (blk_cell BK238.out 10).trans rfl⟩ (fun hHeld => ?_)
 clear hK K
 refine norm_ (a' := ?_) ?_ ?_
 rotate_left
 ·show Act.put _ (some 46) _ = _
  simp only [Act.put, la_, lz_, ls_, i64_w, i32_w]
  rfl
 refine pure_ (i := 25) (N := some 4) (v := ?_) (a' := ?_) #[T_, T_, T_, T_, T_, T_, T_, T_, T_, T_, T_, T_, T_, T_, T_, T_, T_, T_, T_, T_, T_, T_, T_, T_, T_, T_] rfl rfl (any_of HT_.out (by kernel_rfl)) (fun _ _ _ h => h) (Or.inl ⟨by rfl, ?_⟩) ?_ ?_
 rotate_left
 ·intro w'
  go_simp
  with_reducible rfl
 rotate_left
 ·simp only [Act.put, la_, lz_, ls_, i64_w, i32_w]
  rfl
 refine done_ (done_of HT_.out (by kernel_rfl)) ?_
 obtain ⟨hcz27_0, hcz27_1, hcz27_2, hcz27_3, hcz27_4, hcz27_5, hcz27_6, hcz27_7, hcz27_8, hcz27_9, hcz27_10, hfz27_0, hfz27_1, hfz27_2, hfz27_3, hfz27_4, hfz27_5, hfz27_6, hfz27_7, hfz27_8, hfz27_9, hfz27_10⟩ := cells11_ BK238.out
 try go_wp2
 go_loopg [4, 50] k (fun kq v4 v50 w' => ∃ (x4_1 : List Int) (x50_1 : Int), v50 = .int .i64 x50_1 ∧ Aside0 (impl_Segment_body.l0 kq x4_1 l0_9 (l0_9.length : Int) x50_1 a0_0 a0_1 a0_2 a0_3 a0_4 a0_5 a0_6 a0_7 a0_8 l0_9 l0_10 = some r) ∧ Aside0 (kq ≤ k) ∧ Aside0 (Kd.R (Kd.int .u8) 5 w' w.heap.size (fun k_ => (w.heap.size ≤ k_)) v4 x4_1) ∧ Aside0 (Kd.V (Kd.int .u8) 5 w' w.heap.size (fun k_ => (P0_10_ k_ ∨ w.heap.size ≤ k_) ∧ some k_ ≠ (v4 : Value).ownBlock ∧ k_ ≠ gb238) (.slice A0_10 l0_10.length c0_10) l0_10) ∧ Aside0 (w'.heap[gb238]? = some (.cells #[.int .i64 a0_0, .int .i64 a0_1, .int .i64 a0_2, .int .i64 a0_3, .int .i64 a0_4, .bool a0_5, .bool a0_6, .bool a0_7, .bool a0_8, (.slice A0_9 l0_9.length c0_9), (.slice A0_10 l0_10.length c0_10)] 31 (0, 0))) ∧ Aside0 (Below w.heap.size w w'))
 case atStart => exact ⟨(t258), (0), (by first | rfl | (simp; done) | (simp [*]; done)), H', ⟨Nat.le_refl _⟩, ⟨by (with_reducible repeat (first | apply Kd.R_alloc | apply Kd.R_drewN | apply Kd.R_drew)); exact Kd.R_mono HO260.out (fun _ hk => hk.1)⟩, ⟨by (with_reducible repeat (first | apply Kd.V_alloc | apply Kd.V_drewN | apply Kd.V_drew)); exact Kd.V_mono HO0_10.out (fun _ hk => by first | exact ⟨hk.1.1.1, ⟨hk.2, hk.1.1.2.2.2.2.2⟩⟩ | exact hk.1 | exact hk | exact ⟨hk.1, hk.2⟩ | exact ⟨.inr hk.1, hk.2⟩ | simp only [hk, ne_eq, not_false_eq_true, and_self])⟩, ⟨u_ BK238.out⟩, ⟨us_ HB.out⟩⟩
 case round =>
  clear H'
  try clear p2
  try clear c6
  try clear p6
  try clear hcz27_0
  try clear hcz27_1
  try clear hcz27_10
  try clear hcz27_2
  try clear hcz27_3
  try clear hcz27_4
  try clear hcz27_5
  try clear hcz27_6
  try clear hcz27_7
  try clear hcz27_8
  try clear hcz27_9
  try clear hfz27_0
  try clear hfz27_1
  try clear hfz27_10
  try clear hfz27_2
  try clear hfz27_3
  try clear hfz27_4
  try clear hfz27_5
  try clear hfz27_6
  try clear hfz27_7
  try clear hfz27_8
  try clear hfz27_9
  obtain ⟨x4_1, x50_1, rfl, HA, HK1, HO_4, HO_239010, BK238, HB⟩ := hrel
  cases gk with
  | zero => exact absurd HA.out (by simp [impl_Segment_body.l0])
  | succ k1 =>
   have H := HA.out
   clear HA
   simp only [impl_Segment_body.l0] at H
   by_cases c28 : x50_1 < (l0_9.length : Int)
   rotate_left
   ·rw [if_neg c28] at H
    have c28b0 : decide (x50_1 < (l0_9.length : Int)) = false := decide_eq_false c28
    clear c28
    obtain ⟨y275, hy275⟩ : ∃ y_ : List Int, y_ = (([((l0_10.length : Int)) % 256] : List Int)) := ⟨_, rfl⟩
    replace H : ((slices_Concat_byte_byte.f (([x4_1, y275, l0_10] : List (List Int)))).bind fun t281 => (some t281)) = some r := by first | (rw [hy275]; with_reducible exact H) | (have H2_ := (Option.bind_some _ _).symm.trans H; rw [hy275]; with_reducible exact H2_) | (have H2_ := (Option.bind_some _ _).symm.trans H; with_reducible exact H2_) | with_reducible exact H | (rw [hy275]; exact H) | exact H
    have Ny275 := mk_ hy275
    clear hy275
    obtain ⟨y278, hy278⟩ : ∃ y_ : List (List Int), y_ = (([x4_1, y275, l0_10] : List (List Int))) := ⟨_, rfl⟩
    replace H : ((slices_Concat_byte_byte.f y278).bind fun t281 => (some t281)) = some r := by first | (rw [hy278]; with_reducible exact H) | (have H2_ := (Option.bind_some _ _).symm.trans H; rw [hy278]; with_reducible exact H2_) | (have H2_ := (Option.bind_some _ _).symm.trans H; with_reducible exact H2_) | with_reducible exact H | (rw [hy278]; exact H) | exact H
    have Ny278 := mk_ hy278
    clear hy278
    replace H := Option.bind_eq_some_iff.mp H
    obtain ⟨t281, A480, H⟩ := H
    replace H : (some t281) = some r := H
    have A48 := mk_ A480
    clear A480
    obtain rfl := Option.some.inj H
    obtain ⟨hcz49_0, hcz49_1, hcz49_2, hcz49_3, hcz49_4, hcz49_5, hcz49_6, hcz49_7, hcz49_8, hcz49_9, hcz49_10, hfz49_0, hfz49_1, hfz49_2, hfz49_3, hfz49_4, hfz49_5, hfz49_6, hfz49_7, hfz49_8, hfz49_9, hfz49_10⟩ := cells11_ BK238.out
    go_wp2_with (first | ((with_reducible refine gate_dst (N := 69) rfl ?_); refine Kd.R_lit (Kd.int .u8) _ 5 ?hg (N := 69) ?hd (xs := ([((l0_10.length : Int)) % 256] : List Int)) (inner := [.int .u8 (((l0_10.length : Int)) % 256)]) (ok := fun _ => True) (okp := fun _ => True) ?hr ?hp (fun _ hk => hk) trivial (Below.refl _ _) (Nat.le_refl _) (by simp) ?_; (case hd => rfl); (case hg => rfl); (case hr => first | (go_simp; done) | (go_simp; rfl)); (case hp => exact (Reps.one (show Kd.M (Kd.int .u8) _ _ _ (((l0_10.length : Int)) % 256) [.int .u8 (((l0_10.length : Int)) % 256)] from rfl) (Reps.none _ _))); intro v276 w50 ho51 hb hg_ hnew_; clear hg_ hnew_; (first | rw [← Ny275.out] at ho51 | (simp only [Int.reduceToNat] at ho51; rw [← Ny275.out] at ho51)); have n0_ := mk_ (Kd.R_elder' (Kd.ur_ HO_4.out) (Kd.R_base ho51) hb); have n1_ := mk_ (Kd.V_elder' (by (with_reducible repeat (first | apply Kd.V_alloc | apply Kd.V_drewN | apply Kd.V_drew)); exact HO_239010.out) (Kd.R_base ho51) hb); have n2_ := mk_ (Kd.R_lower (Kd.R_new' (Kd.R_newM (M := fun k_ => (w.heap.size ≤ k_)) ho51 (below_size (us_ HB.out)) (fun k_ h_ => h_)) (Kd.R_lt (Kd.ur_ HO_4.out))) (below_size (us_ HB.out))); have n3_ := mk_ (blk_below (u_ BK238.out) hb); have n4_ := mk_ (below_step (us_ HB.out) hb); clear HO_4; clear HO_239010; clear BK238; clear HB; have HO_4 := n0_; have HO_239010 := n1_; have HO277 := n2_; have BK238 := n3_; have HB := n4_; clear n0_ n1_ n2_ n3_ n4_; clear hb ho51; obtain ⟨hcz52_0, hcz52_1, hcz52_2, hcz52_3, hcz52_4, hcz52_5, hcz52_6, hcz52_7, hcz52_8, hcz52_9, hcz52_10, hfz52_0, hfz52_1, hfz52_2, hfz52_3, hfz52_4, hfz52_5, hfz52_6, hfz52_7, hfz52_8, hfz52_9, hfz52_10⟩ := cells11_ BK238.out; obtain ⟨Ao53, co53, eo53⟩ := Kd.R_slice HO_4.out; subst eo53; obtain ⟨Ao54, co54, eo54⟩ := Kd.R_slice HO277.out; subst eo54) | ((with_reducible refine gate_dst (N := 72) rfl ?_); refine Kd.N_lit (Kd.slice 5 (Kd.int .u8)) _ 22 ?hg (N' := 72) ?hd (xs := ([x4_1, y275, l0_10] : List (List Int))) (inner := [.slice Ao53 x4_1.length co53, .slice Ao54 y275.length co54, .slice A0_10 l0_10.length c0_10]) (ok := (fun k_ => (P0_10_ k_ ∨ w.heap.size ≤ k_) ∧ k_ ≠ gb238)) (okp := (fun k_ => (P0_10_ k_ ∨ w.heap.size ≤ k_) ∧ k_ ≠ gb238)) ?hr ?hp (fun _ hk => hk) ((show ∀ k_, w50.heap.size ≤ k_ → (fun k_ => (P0_10_ k_ ∨ w.heap.size ≤ k_) ∧ k_ ≠ gb238) k_ from fun k_ hk => ⟨(.inr (Nat.le_trans (below_size (us_ HB.out)) hk)), Kd.freshB (g := gb238) (o := .cells #[.int .i64 a0_0, .int .i64 a0_1, .int .i64 a0_2, .int .i64 a0_3, .int .i64 a0_4, .bool a0_5, .bool a0_6, .bool a0_7, .bool a0_8, .slice A0_9 l0_9.length c0_9, .slice A0_10 l0_10.length c0_10] 31 (0, 0)) (u_ BK238.out) k_ hk⟩) _ (Nat.le_refl _)) (Below.refl _ _) (Nat.le_refl _) (by simp) ?_; (case hd => rfl); (case hg => rfl); (case hr => first | (go_simp; done) | (go_simp; rfl)); (case hp => exact (Reps.one (show Kd.FK (Kd.slice 5 (Kd.int .u8)) _ _ x4_1 [.slice Ao53 x4_1.length co53] from (Kd.FK_slice_mk (Kd.R_reads' (Kd.R_mono (ok' := (fun k_ => (P0_10_ k_ ∨ w.heap.size ≤ k_) ∧ k_ ≠ gb238)) (Kd.R_types (HO_4.out) BK238.out (by decide)) (fun k_ hk => by first | exact ⟨(.inr (hk.1.1)), hk.2⟩ | exact hk.1 | exact hk | exact ⟨hk.1, hk.2⟩ | exact ⟨.inr hk.1, hk.2⟩ | simp only [hk, ne_eq, not_false_eq_true, and_self]))).2.1 (Kd.R_F (Kd.R_mono (ok' := (fun k_ => (P0_10_ k_ ∨ w.heap.size ≤ k_) ∧ k_ ≠ gb238)) (Kd.R_types (HO_4.out) BK238.out (by decide)) (fun k_ hk => by first | exact ⟨(.inr (hk.1.1)), hk.2⟩ | exact hk.1 | exact hk | exact ⟨hk.1, hk.2⟩ | exact ⟨.inr hk.1, hk.2⟩ | simp only [hk, ne_eq, not_false_eq_true, and_self]))))) (Reps.one (show Kd.FK (Kd.slice 5 (Kd.int .u8)) _ _ y275 [.slice Ao54 y275.length co54] from (Kd.FK_slice_mk (Kd.R_reads' (Kd.R_mono (ok' := (fun k_ => (P0_10_ k_ ∨ w.heap.size ≤ k_) ∧ k_ ≠ gb238)) (Kd.R_types (HO277.out) BK238.out (by decide)) (fun k_ hk => by first | exact ⟨(.inr (hk.1.1.1)), hk.2⟩ | exact hk.1 | exact hk | exact ⟨hk.1, hk.2⟩ | exact ⟨.inr hk.1, hk.2⟩ | simp only [hk, ne_eq, not_false_eq_true, and_self]))).2.1 (Kd.R_F (Kd.R_mono (ok' := (fun k_ => (P0_10_ k_ ∨ w.heap.size ≤ k_) ∧ k_ ≠ gb238)) (Kd.R_types (HO277.out) BK238.out (by decide)) (fun k_ hk => by first | exact ⟨(.inr (hk.1.1.1)), hk.2⟩ | exact hk.1 | exact hk | exact ⟨hk.1, hk.2⟩ | exact ⟨.inr hk.1, hk.2⟩ | simp only [hk, ne_eq, not_false_eq_true, and_self]))))) (Reps.one (show Kd.FK (Kd.slice 5 (Kd.int .u8)) _ _ l0_10 [.slice A0_10 l0_10.length c0_10] from (Kd.FK_slice_mk (Kd.V_reads' (Kd.V_mono (ok' := (fun k_ => (P0_10_ k_ ∨ w.heap.size ≤ k_) ∧ k_ ≠ gb238)) (HO_239010.out) (fun k_ hk => by first | exact ⟨hk.1.1, hk.1.2.2⟩ | exact hk.1 | exact hk | exact ⟨hk.1, hk.2⟩ | exact ⟨.inr hk.1, hk.2⟩ | simp only [hk, ne_eq, not_false_eq_true, and_self]))).2.1 (Kd.V_F (Kd.V_mono (ok' := (fun k_ => (P0_10_ k_ ∨ w.heap.size ≤ k_) ∧ k_ ≠ gb238)) (HO_239010.out) (fun k_ hk => by first | exact ⟨hk.1.1, hk.1.2.2⟩ | exact hk.1 | exact hk | exact ⟨hk.1, hk.2⟩ | exact ⟨.inr hk.1, hk.2⟩ | simp only [hk, ne_eq, not_false_eq_true, and_self]))))) (Reps.none _ _))))); intro v279 w55 ho56 hb hg_ hnew_; clear hg_ hnew_; (first | rw [← Ny278.out] at ho56 | (simp only [Int.reduceToNat] at ho56; rw [← Ny278.out] at ho56)); have n0_ := mk_ (Kd.V_elder' (by (with_reducible repeat (first | apply Kd.V_alloc | apply Kd.V_drewN | apply Kd.V_drew)); exact HO_239010.out) (Kd.N_base ho56) hb); have n1_ := mk_ (Kd.N_lower ho56 (below_size (us_ HB.out))); have n2_ := mk_ (blk_below (u_ BK238.out) hb); have n3_ := mk_ (below_step (us_ HB.out) hb); clear HO_239010; clear BK238; clear HB; clear HO277; clear HO_4; have HO_239010 := n0_; have HO280 := n1_; have BK238 := n2_; have HB := n3_; clear n0_ n1_ n2_ n3_; clear hb ho56; obtain ⟨Ao57, co57, eo57⟩ := Kd.N_slice HO280.out; subst eo57) | ((with_reducible refine gate_callee (f := 62) rfl ?_); refine goesL_ (some 73) rfl rfl Try.func62 (by kernel_rfl) rfl #[.slice Ao57 y278.length co57] rfl (by (try simp only [lm_, lo_, ln_]); first | done | rfl | (simp only [List.length_drop, List.length_take]; rfl)) ?_; (with_reducible refine (slices_Concat_byte_byte.calls _ _ y278 t281 _ ?side1 ?side2 A48.out).mono ?_); (case side1 => repeat (first | exact (Kd.N_reads' HO280.out).2.2 | (with_reducible refine Kd.C_alloc ?_ _) | (with_reducible refine Kd.C_drewN ?_ _) | (with_reducible refine Kd.C_drew ?_))); (case side2 => exact (Kd.N_reads' HO280.out).2.1); rintro e w58 ⟨v282, rfl, ho0, hb⟩; refine ⟨_, rfl, ?_⟩; have n0_ := mk_ (Kd.V_elder' (by (with_reducible repeat (first | apply Kd.V_alloc | apply Kd.V_drewN | apply Kd.V_drew)); exact HO_239010.out) (Kd.R_base ho0) hb); have n1_ := mk_ (Kd.N_elder' (by (with_reducible repeat (first | apply Kd.N_alloc | apply Kd.N_drewN | apply Kd.N_drew)); exact HO280.out) (Kd.R_base ho0) hb); have n2_ := mk_ (Kd.R_lower (Kd.R_newM (M := fun k_ => (w.heap.size ≤ k_)) ho0 (below_size (us_ HB.out)) (fun k_ h_ => h_)) (below_size (us_ HB.out))); have n3_ := mk_ (blk_below (u_ BK238.out) hb); have n4_ := mk_ (below_step (us_ HB.out) hb); clear HO_239010; clear HO280; clear BK238; clear HB; have HO_239010 := n0_; have HO280 := n1_; have HO283 := n2_; have BK238 := n3_; have HB := n4_; clear n0_ n1_ n2_ n3_ n4_; (try clear hb); (try clear hb2); (try clear hk); (try clear hi); (try clear ho0)))
    go_ret
    exact ⟨_, by first | rfl | (simp [errW_none, errW_some] <;> rfl) | (simp [*, errW_none, errW_some] <;> rfl), by (with_reducible repeat (first | apply Kd.R_alloc | apply Kd.R_drewN | apply Kd.R_drew)); exact Kd.R_mono HO283.out (fun _ hk => hk.1), us_ HB.out⟩
   rw [if_pos c28] at H
   have c28b0 : decide (x50_1 < (l0_9.length : Int)) = true := decide_eq_true c28
   clear c28
   by_cases c29 : 0 ≤ x50_1
   rotate_left
   ·rw [if_neg c29] at H
    exact absurd H (by simp)
   rw [if_pos c29] at H
   have c29b0 : decide (0 ≤ x50_1) = true := decide_eq_true c29
   clear c29
   by_cases c30 : x50_1 < (l0_9.length : Int)
   rotate_left
   ·rw [if_neg c30] at H
    exact absurd H (by simp)
   rw [if_pos c30] at H
   have c30b0 : decide (x50_1 < (l0_9.length : Int)) = true := decide_eq_true c30
   clear c30
   replace H := Option.bind_eq_some_iff.mp H
   obtain ⟨t263, A310, H⟩ := H
   replace H : ((impl_bytesOf.f k1 ((rd_T42 l0_9 x50_1).f1) 2).bind fun t266 => ((slices_Concat_byte_byte.f (([x4_1, t263, t266] : List (List Int)))).bind fun t272 => (impl_Segment_body.l0 k1 t272 l0_9 (l0_9.length : Int) (wrap64 (x50_1 + 1)) a0_0 a0_1 a0_2 a0_3 a0_4 a0_5 a0_6 a0_7 a0_8 l0_9 l0_10))) = some r := H
   have A31 := mk_ A310
   clear A310
   replace H := Option.bind_eq_some_iff.mp H
   obtain ⟨t266, A320, H⟩ := H
   replace H : ((slices_Concat_byte_byte.f (([x4_1, t263, t266] : List (List Int)))).bind fun t272 => (impl_Segment_body.l0 k1 t272 l0_9 (l0_9.length : Int) (wrap64 (x50_1 + 1)) a0_0 a0_1 a0_2 a0_3 a0_4 a0_5 a0_6 a0_7 a0_8 l0_9 l0_10)) = some r := H
   have A32 := mk_ A320
   clear A320
   obtain ⟨y269, hy269⟩ : ∃ y_ : List (List Int), y_ = (([x4_1, t263, t266] : List (List Int))) := ⟨_, rfl⟩
   replace H : ((slices_Concat_byte_byte.f y269).bind fun t272 => (impl_Segment_body.l0 k1 t272 l0_9 (l0_9.length : Int) (wrap64 (x50_1 + 1)) a0_0 a0_1 a0_2 a0_3 a0_4 a0_5 a0_6 a0_7 a0_8 l0_9 l0_10)) = some r := by first | (rw [hy269]; with_reducible exact H) | (have H2_ := (Option.bind_some _ _).symm.trans H; rw [hy269]; with_reducible exact H2_) | (have H2_ := (Option.bind_some _ _).symm.trans H; with_reducible exact H2_) | with_reducible exact H | (rw [hy269]; exact H) | exact H
   have Ny269 := mk_ hy269
   clear hy269
   replace H := Option.bind_eq_some_iff.mp H
   obtain ⟨t272, A330, H⟩ := H
   replace H : (impl_Segment_body.l0 k1 t272 l0_9 (l0_9.length : Int) (wrap64 (x50_1 + 1)) a0_0 a0_1 a0_2 a0_3 a0_4 a0_5 a0_6 a0_7 a0_8 l0_9 l0_10) = some r := H
   have A33 := mk_ A330
   clear A330
   have H' := mk_ H
   clear H
   have p261 : 0 ≤ (x50_1 : Int) := of_decide_eq_true (by first | (with_reducible assumption) | assumption)
   have q261 : x50_1 < (l0_9.length : Int) := of_decide_eq_true (by first | (with_reducible assumption) | assumption)
   obtain ⟨ad261, e261, hx261_0, hx261_1⟩ := at_T42 HR0_9.out x50_1 p261 q261
   cases e261
   replace hx261_0 := (HB.out.cell (lc_ w _ hx261_0)).trans hx261_0
   replace hx261_1 := (HB.out.cell (lc_ w _ hx261_1)).trans hx261_1
   replace p261 := eq_true p261
   replace q261 := eq_true q261
   try go_wp2_with (first | ((with_reducible refine gate_dst (N := 6) rfl ?_); refine box_event ?hg (N := 6) ?hd (cs := #[.int .i64 0, .int .i64 0]) (t := 42) ?hr ?_; (case hd => rfl); (case hg => rfl); (case hr => first | (go_simp; done) | (go_simp; rfl)); intro gb262 hg w34 hbox hb; have n0_ := mk_ (Kd.R_below (Kd.ur_ HO_4.out) hb); have n1_ := mk_ (Kd.V_below (Kd.V_elderB (by (with_reducible repeat (first | apply Kd.V_alloc | apply Kd.V_drewN | apply Kd.V_drew)); exact HO_239010.out) gb262 (Nat.le_of_eq hg.symm)) hb); have n2_ := mk_ (blk_below (u_ BK238.out) hb); have n3_ := mk_ (below_step (us_ HB.out) hb); have n4_ := mk_ (hbox); have n5_ := mk_ ((by rw [hg]; exact (below_size (us_ HB.out)) : w.heap.size ≤ gb262)); have n6_ := mk_ ((by rw [hg]; exact (below_size (us_ HB.out)) : w.heap.size ≤ gb262)); have n7_ := mk_ ((by rw [hg]; exact Nat.ne_of_lt (blk_lt (u_ BK238.out)) : gb238 ≠ gb262)); have n8_ := mk_ ((by rw [hg]; exact Nat.ne_of_gt (blk_lt (u_ BK238.out)) : gb262 ≠ gb238)); clear HO_4; clear HO_239010; clear BK238; clear HB; have HO_4 := n0_; have HO_239010 := n1_; have BK238 := n2_; have HB := n3_; have BK262 := n4_; have GW262 := n5_; have GE262 := ge_ n6_.out; have NB238_262 := nq_ n7_.out; have NB262_238 := nq_ n8_.out; clear n0_ n1_ n2_ n3_ n4_ n5_ n6_ n7_ n8_; clear hb hbox hg; have hnb35 := NB262_238.out; have hnc35 := NB238_262.out; obtain ⟨hcz36_0, hcz36_1, hfz36_0, hfz36_1⟩ := cells2_ BK262.out))
   have n0_ : Aside0 (Kd.R (Kd.int .u8) 5 ((w34.setCell ⟨gb262, 0, none⟩ (.int .i64 ((rd_T42 l0_9 x50_1).f0))).setCell ⟨gb262, 1, none⟩ (.int .i64 ((rd_T42 l0_9 x50_1).f1))) w.heap.size (fun k_ => (w.heap.size ≤ k_)) u4 x4_1) := ⟨by (with_reducible repeat (first | apply Kd.R_alloc | apply Kd.R_drewN | apply Kd.R_drew)); exact Kd.R_mono (Kd.R_far (p := ⟨gb262, 1, none⟩) (Kd.R_far (p := ⟨gb262, 0, none⟩) (Kd.R_types HO_4.out BK262.out (by decide)) (fun _ hk => hk.2) (.int .i64 ((rd_T42 l0_9 x50_1).f0))) (fun _ hk => hk.2) (.int .i64 ((rd_T42 l0_9 x50_1).f1))) (fun _ hk => hk.1)⟩
   have n1_ : Aside0 (Kd.V (Kd.int .u8) 5 ((w34.setCell ⟨gb262, 0, none⟩ (.int .i64 ((rd_T42 l0_9 x50_1).f0))).setCell ⟨gb262, 1, none⟩ (.int .i64 ((rd_T42 l0_9 x50_1).f1))) w.heap.size (fun k_ => (P0_10_ k_ ∨ w.heap.size ≤ k_) ∧ some k_ ≠ (u4 : Value).ownBlock ∧ k_ ≠ gb238 ∧ k_ ≠ gb262) (.slice A0_10 l0_10.length c0_10) l0_10) := ⟨by (with_reducible repeat (first | apply Kd.V_alloc | apply Kd.V_drewN | apply Kd.V_drew)); exact Kd.V_mono (Kd.V_far (p := ⟨gb262, 1, none⟩) (Kd.V_far (p := ⟨gb262, 0, none⟩) (Kd.V_mono HO_239010.out (fun k_ hk => (⟨hk, hk.2⟩ : _ ∧ k_ ≠ gb262))) (fun _ hk => hk.2) (.int .i64 ((rd_T42 l0_9 x50_1).f0))) (fun _ hk => hk.2) (.int .i64 ((rd_T42 l0_9 x50_1).f1))) (fun _ hk => by first | exact ⟨hk.1.1.1, ⟨hk.1.1.2.1, ⟨hk.1.1.2.2, hk.1.2⟩⟩⟩ | exact hk.1 | exact hk | exact ⟨hk.1, hk.2⟩ | exact ⟨.inr hk.1, hk.2⟩ | simp only [hk, ne_eq, not_false_eq_true, and_self])⟩
   have n2_ : Aside0 (((w34.setCell ⟨gb262, 0, none⟩ (.int .i64 ((rd_T42 l0_9 x50_1).f0))).setCell ⟨gb262, 1, none⟩ (.int .i64 ((rd_T42 l0_9 x50_1).f1))).heap[gb238]? = some (.cells #[.int .i64 a0_0, .int .i64 a0_1, .int .i64 a0_2, .int .i64 a0_3, .int .i64 a0_4, .bool a0_5, .bool a0_6, .bool a0_7, .bool a0_8, .slice (some ad261) l0_9.length c0_9, .slice A0_10 l0_10.length c0_10] 31 (0, 0))) := ⟨uf_ BK238.out⟩
   have n3_ : Aside0 (((w34.setCell ⟨gb262, 0, none⟩ (.int .i64 ((rd_T42 l0_9 x50_1).f0))).setCell ⟨gb262, 1, none⟩ (.int .i64 ((rd_T42 l0_9 x50_1).f1))).heap[gb262]? = some (.cells #[.int .i64 ((rd_T42 l0_9 x50_1).f0), .int .i64 ((rd_T42 l0_9 x50_1).f1)] 42 (0, 0))) := ⟨by (with_reducible repeat (first | refine bn_ ?_ _ | refine bw_ ?_ | refine ba_ ?_ _)); refine blk_put (cs := #[.int .i64 ((rd_T42 l0_9 x50_1).f0), .int .i64 0]) ?_ 1 _ rfl; (with_reducible repeat (first | refine bn_ ?_ _ | refine bw_ ?_ | refine ba_ ?_ _)); refine blk_put (cs := #[.int .i64 0, .int .i64 0]) ?_ 0 _ rfl; (with_reducible repeat (first | refine bn_ ?_ _ | refine bw_ ?_ | refine ba_ ?_ _)); exact BK262.out⟩
   have n4_ : Aside0 (Below w.heap.size w ((w34.setCell ⟨gb262, 0, none⟩ (.int .i64 ((rd_T42 l0_9 x50_1).f0))).setCell ⟨gb262, 1, none⟩ (.int .i64 ((rd_T42 l0_9 x50_1).f1)))) := ⟨us_ HB.out⟩
   (try clear HO_4)
   (try clear HO_239010)
   (try clear BK238)
   (try clear BK262)
   (try clear HB)
   generalize ((w34.setCell ⟨gb262, 0, none⟩ (.int .i64 ((rd_T42 l0_9 x50_1).f0))).setCell ⟨gb262, 1, none⟩ (.int .i64 ((rd_T42 l0_9 x50_1).f1))) = w37 at n0_ n1_ n2_ n3_ n4_ ⊢
   have HO_4 := n0_
   have HO_239010 := n1_
   have BK238 := n2_
   have BK262 := n3_
   have HB := n4_
   clear n0_ n1_ n2_ n3_ n4_
   have n0_ := mk_ (Kd.R_drew HO_4.out)
   have n1_ := mk_ (Kd.V_drew HO_239010.out)
   have n2_ := mk_ (blk_drew BK238.out)
   have n3_ := mk_ (blk_drew BK262.out)
   have n4_ := mk_ (below_drew1 HB.out)
   clear HO_4
   clear HO_239010
   clear BK238
   clear BK262
   clear HB
   have HO_4 := n0_
   have HO_239010 := n1_
   have BK238 := n2_
   have BK262 := n3_
   have HB := n4_
   clear n0_ n1_ n2_ n3_ n4_
   refine start_ (n := 10) (S := fun w' => w'.cell? ⟨gb262, 0, none⟩ = some (.int .i64 ((rd_T42 l0_9 x50_1).f0)) ∧ w'.cell? ⟨gb262, 1, none⟩ = some (.int .i64 ((rd_T42 l0_9 x50_1).f1))) (ds := []) #[F_, F_, F_, F_, F_, F_, F_, F_, F_, F_] (by kernel_rfl) rfl rfl ⟨(blk_cell BK262.out 0).trans rfl, (blk_cell BK262.out 1).trans rfl⟩ (fun hHeld => ?_); refine with_tabW impl_Segment_body.tab6 impl_Segment_body.bits6 (fun HT_ HW_ => ?_)
   generalize w37.drew = w38 at HO_4 HO_239010 BK238 BK262 HB hHeld ⊢
   refine pure_ (i := 0) (N := some 54) (v := ?_) (a' := ?_) #[T_, F_, F_, F_, F_, F_, F_, F_, F_, F_] rfl rfl (any_of HT_.out (by kernel_rfl)) (fun _ _ _ h => h) (Or.inl ⟨by rfl, ?_⟩) ?_ ?_
   rotate_left
   ·intro w'
    go_simp
    with_reducible rfl
   rotate_left
   ·simp only [Act.put, la_, lz_, ls_, i64_w, i32_w]
    rfl
   refine pure_ (i := 1) (N := some 55) (v := ?_) (a' := ?_) #[T_, T_, F_, F_, F_, F_, F_, F_, F_, F_] rfl rfl (any_of HT_.out (by kernel_rfl)) (fun _ _ _ h => h) (Or.inl ⟨by rfl, ?_⟩) ?_ ?_
   rotate_left
   ·intro w'
    go_simp
    with_reducible rfl
   rotate_left
   ·simp only [Act.put, la_, lz_, ls_, i64_w, i32_w]
    rfl
   refine pure_ (i := 4) (N := some 58) (v := ?_) (a' := ?_) #[T_, T_, F_, F_, T_, F_, F_, F_, F_, F_] rfl rfl (any_of HT_.out (by kernel_rfl)) (fun _ _ _ h => h) (Or.inl ⟨by rfl, ?_⟩) ?_ ?_
   rotate_left
   ·intro w'
    go_simp
    with_reducible rfl
   rotate_left
   ·simp only [Act.put, la_, lz_, ls_, i64_w, i32_w]
    rfl
   refine take_ (i := 2) (N := some 56) (v := ?_) (a' := ?_) #[T_, T_, T_, F_, T_, F_, F_, F_, F_, F_] rfl rfl (take_ofW HT_.out HW_.out (by kernel_rfl)) (fun _ _ _ h => h) (Or.inl ⟨by rfl, ?_⟩) hHeld ?_ ?_
   rotate_left
   ·rintro w' ⟨s0, s1⟩
    go_simp
    with_reducible rfl
   rotate_left
   ·simp only [Act.put, la_, lz_, ls_, i64_w, i32_w]
    rfl
   refine take_ (i := 5) (N := some 59) (v := ?_) (a' := ?_) #[T_, T_, T_, F_, T_, T_, F_, F_, F_, F_] rfl rfl (take_ofW HT_.out HW_.out (by kernel_rfl)) (fun _ _ _ h => h) (Or.inl ⟨by rfl, ?_⟩) hHeld ?_ ?_
   rotate_left
   ·rintro w' ⟨s0, s1⟩
    go_simp
    with_reducible rfl
   rotate_left
   ·simp only [Act.put, la_, lz_, ls_, i64_w, i32_w]
    rfl
   refine one_ (i := 3) (N := some 57) #[T_, T_, T_, T_, T_, T_, F_, F_, F_, F_] rfl rfl (one_of HT_.out (by kernel_rfl)) (by decide) (fun K hK => ?_)
   refine goes_ Try.func63 (by kernel_rfl) rfl #[.int .i64 ((rd_T42 l0_9 x50_1).f0), .int .i64 2] (by rfl) rfl rfl (by (try simp only [lm_, lo_, ln_]); first | done | rfl | (simp only [List.length_drop, List.length_take]; rfl)) ?_
   with_reducible refine (impl_bytesOf.calls k1 ((rd_T42 l0_9 x50_1).f0) 2 t263 _ A31.out).mono ?_
   rintro e w39 ⟨v264, rfl, ho0, hb⟩
   refine ⟨_, rfl, ?_⟩
   have n0_ := mk_ (Kd.R_elder' (Kd.ur_ HO_4.out) (Kd.R_base ho0) hb)
   have n1_ := mk_ (Kd.V_elder' (by (with_reducible repeat (first | apply Kd.V_alloc | apply Kd.V_drewN | apply Kd.V_drew)); exact HO_239010.out) (Kd.R_base ho0) hb)
   have n2_ := mk_ (Kd.R_lower (Kd.R_new' (Kd.R_newM (M := fun k_ => (w.heap.size ≤ k_)) ho0 (below_size (us_ HB.out)) (fun k_ h_ => h_)) (Kd.R_lt (Kd.ur_ HO_4.out))) (below_size (us_ HB.out)))
   have n3_ := mk_ (blk_below (u_ BK238.out) hb)
   have n4_ := mk_ (blk_below (u_ BK262.out) hb)
   have n5_ := mk_ (below_step (us_ HB.out) hb)
   clear HO_4
   clear HO_239010
   clear BK238
   clear BK262
   clear HB
   have HO_4 := n0_
   have HO_239010 := n1_
   have HO265 := n2_
   have BK238 := n3_
   have BK262 := n4_
   have HB := n5_
   clear n0_ n1_ n2_ n3_ n4_ n5_
   (try clear hb)
   (try clear hb2)
   (try clear hk)
   (try clear hi)
   (try clear ho0)
   refine hK.out _ _ ⟨(blk_cell BK262.out 0).trans rfl, (blk_cell BK262.out 1).trans rfl⟩ (fun hHeld => ?_)
   clear hK K
   refine norm_ (a' := ?_) ?_ ?_
   rotate_left
   ·show Act.put _ (some 57) _ = _
    simp only [Act.put, la_, lz_, ls_, i64_w, i32_w]
    rfl
   refine one_ (i := 6) (N := some 60) #[T_, T_, T_, T_, T_, T_, T_, F_, F_, F_] rfl rfl (one_of HT_.out (by kernel_rfl)) (by decide) (fun K hK => ?_)
   refine goes_ Try.func63 (by kernel_rfl) rfl #[.int .i64 ((rd_T42 l0_9 x50_1).f1), .int .i64 2] (by rfl) rfl rfl (by (try simp only [lm_, lo_, ln_]); first | done | rfl | (simp only [List.length_drop, List.length_take]; rfl)) ?_
   with_reducible refine (impl_bytesOf.calls k1 ((rd_T42 l0_9 x50_1).f1) 2 t266 _ A32.out).mono ?_
   rintro e w40 ⟨v267, rfl, ho0, hb⟩
   refine ⟨_, rfl, ?_⟩
   have n0_ := mk_ (Kd.R_elder' (Kd.ur_ HO_4.out) (Kd.R_base ho0) hb)
   have n1_ := mk_ (Kd.V_elder' (by (with_reducible repeat (first | apply Kd.V_alloc | apply Kd.V_drewN | apply Kd.V_drew)); exact HO_239010.out) (Kd.R_base ho0) hb)
   have n2_ := mk_ (Kd.R_elder' (Kd.ur_ HO265.out) (Kd.R_base ho0) hb)
   have n3_ := mk_ (Kd.R_lower (Kd.R_new' (Kd.R_new' (Kd.R_newM (M := fun k_ => (w.heap.size ≤ k_)) ho0 (below_size (us_ HB.out)) (fun k_ h_ => h_)) (Kd.R_lt (Kd.ur_ HO_4.out))) (Kd.R_lt (Kd.ur_ HO265.out))) (below_size (us_ HB.out)))
   have n4_ := mk_ (blk_below (u_ BK238.out) hb)
   have n5_ := mk_ (blk_below (u_ BK262.out) hb)
   have n6_ := mk_ (below_step (us_ HB.out) hb)
   clear HO_4
   clear HO_239010
   clear HO265
   clear BK238
   clear BK262
   clear HB
   have HO_4 := n0_
   have HO_239010 := n1_
   have HO265 := n2_
   have HO268 := n3_
   have BK238 := n4_
   have BK262 := n5_
   have HB := n6_
   clear n0_ n1_ n2_ n3_ n4_ n5_ n6_
   (try clear hb)
   (try clear hb2)
   (try clear hk)
   (try clear hi)
   (try clear ho0)
   obtain ⟨Ao41, co41, eo41⟩ := Kd.R_slice HO_4.out
   (first | subst eo41 | (injection eo41 with f1_ f2_ f3_; have f4_ := f1_.symm; have f5_ := f3_.symm; clear f1_ f2_ f3_; subst f4_; subst f5_))
   obtain ⟨Ao42, co42, eo42⟩ := Kd.R_slice HO265.out
   (first | subst eo42 | (injection eo42 with f1_ f2_ f3_; have f4_ := f1_.symm; have f5_ := f3_.symm; clear f1_ f2_ f3_; subst f4_; subst f5_))
   obtain ⟨Ao43, co43, eo43⟩ := Kd.R_slice HO268.out
   (first | subst eo43 | (injection eo43 with f1_ f2_ f3_; have f4_ := f1_.symm; have f5_ := f3_.symm; clear f1_ f2_ f3_; subst f4_; subst f5_))
   refine hK.out _ _ ⟨(blk_cell BK262.out 0).trans rfl, (blk_cell BK262.out 1).trans rfl⟩ (fun hHeld => ?_)
   clear hK K
   refine norm_ (a' := ?_) ?_ ?_
   rotate_left
   ·show Act.put _ (some 60) _ = _
    simp only [Act.put, la_, lz_, ls_, i64_w, i32_w]
    rfl
   refine one_ (i := 7) (N := some 61) #[T_, T_, T_, T_, T_, T_, T_, T_, F_, F_] rfl rfl (one_of HT_.out (by kernel_rfl)) (by decide) (fun K hK => ?_)
   refine Kd.N_lit_step (Kd.slice 5 (Kd.int .u8)) _ 22 ?hg (N' := 61) ?hd (xs := ([x4_1, t263, t266] : List (List Int))) (inner := [.slice Ao41 x4_1.length co41, .slice Ao42 t263.length co42, .slice Ao43 t266.length co43]) (ok := (fun k_ => (P0_10_ k_ ∨ w.heap.size ≤ k_) ∧ k_ ≠ gb238 ∧ k_ ≠ gb262)) (okp := (fun k_ => (P0_10_ k_ ∨ w.heap.size ≤ k_) ∧ k_ ≠ gb238 ∧ k_ ≠ gb262)) ?hr ?hp (fun _ hk => hk) ((show ∀ k_, w40.heap.size ≤ k_ → (fun k_ => (P0_10_ k_ ∨ w.heap.size ≤ k_) ∧ k_ ≠ gb238 ∧ k_ ≠ gb262) k_ from fun k_ hk => ⟨(.inr (Nat.le_trans (below_size (us_ HB.out)) hk)), Kd.freshB (g := gb238) (o := .cells #[.int .i64 a0_0, .int .i64 a0_1, .int .i64 a0_2, .int .i64 a0_3, .int .i64 a0_4, .bool a0_5, .bool a0_6, .bool a0_7, .bool a0_8, .slice (some ad261) l0_9.length c0_9, .slice A0_10 l0_10.length c0_10] 31 (0, 0)) (u_ BK238.out) k_ hk, Kd.freshB (g := gb262) (o := .cells #[.int .i64 ((rd_T42 l0_9 x50_1).f0), .int .i64 ((rd_T42 l0_9 x50_1).f1)] 42 (0, 0)) (u_ BK262.out) k_ hk⟩) _ (Nat.le_refl _)) (Below.refl _ _) (Nat.le_refl _) (by simp) ?_; (case hd => rfl); (case hg => rfl); (case hr => first | (go_simp; done) | (go_simp; rfl)); (case hp => exact (Reps.one (show Kd.FK (Kd.slice 5 (Kd.int .u8)) _ _ x4_1 [.slice Ao41 x4_1.length co41] from (Kd.FK_slice_mk (Kd.R_reads' (Kd.R_mono (ok' := (fun k_ => (P0_10_ k_ ∨ w.heap.size ≤ k_) ∧ k_ ≠ gb238 ∧ k_ ≠ gb262)) (Kd.R_types (Kd.R_types (HO_4.out) BK238.out (by decide)) BK262.out (by decide)) (fun k_ hk => by first | exact ⟨(.inr (hk.1.1.1.1)), ⟨hk.1.2, hk.2⟩⟩ | exact hk.1 | exact hk | exact ⟨hk.1, hk.2⟩ | exact ⟨.inr hk.1, hk.2⟩ | simp only [hk, ne_eq, not_false_eq_true, and_self]))).2.1 (Kd.R_F (Kd.R_mono (ok' := (fun k_ => (P0_10_ k_ ∨ w.heap.size ≤ k_) ∧ k_ ≠ gb238 ∧ k_ ≠ gb262)) (Kd.R_types (Kd.R_types (HO_4.out) BK238.out (by decide)) BK262.out (by decide)) (fun k_ hk => by first | exact ⟨(.inr (hk.1.1.1.1)), ⟨hk.1.2, hk.2⟩⟩ | exact hk.1 | exact hk | exact ⟨hk.1, hk.2⟩ | exact ⟨.inr hk.1, hk.2⟩ | simp only [hk, ne_eq, not_false_eq_true, and_self]))))) (Reps.one (show Kd.FK (Kd.slice 5 (Kd.int .u8)) _ _ t263 [.slice Ao42 t263.length co42] from (Kd.FK_slice_mk (Kd.R_reads' (Kd.R_mono (ok' := (fun k_ => (P0_10_ k_ ∨ w.heap.size ≤ k_) ∧ k_ ≠ gb238 ∧ k_ ≠ gb262)) (Kd.R_types (Kd.R_types (HO265.out) BK238.out (by decide)) BK262.out (by decide)) (fun k_ hk => by first | exact ⟨(.inr (hk.1.1.1.1.1)), ⟨hk.1.2, hk.2⟩⟩ | exact hk.1 | exact hk | exact ⟨hk.1, hk.2⟩ | exact ⟨.inr hk.1, hk.2⟩ | simp only [hk, ne_eq, not_false_eq_true, and_self]))).2.1 (Kd.R_F (Kd.R_mono (ok' := (fun k_ => (P0_10_ k_ ∨ w.heap.size ≤ k_) ∧ k_ ≠ gb238 ∧ k_ ≠ gb262)) (Kd.R_types (Kd.R_types (HO265.out) BK238.out (by decide)) BK262.out (by decide)) (fun k_ hk => by first | exact ⟨(.inr (hk.1.1.1.1.1)), ⟨hk.1.2, hk.2⟩⟩ | exact hk.1 | exact hk | exact ⟨hk.1, hk.2⟩ | exact ⟨.inr hk.1, hk.2⟩ | simp only [hk, ne_eq, not_false_eq_true, and_self]))))) (Reps.one (show Kd.FK (Kd.slice 5 (Kd.int .u8)) _ _ t266 [.slice Ao43 t266.length co43] from (Kd.FK_slice_mk (Kd.R_reads' (Kd.R_mono (ok' := (fun k_ => (P0_10_ k_ ∨ w.heap.size ≤ k_) ∧ k_ ≠ gb238 ∧ k_ ≠ gb262)) (Kd.R_types (Kd.R_types (HO268.out) BK238.out (by decide)) BK262.out (by decide)) (fun k_ hk => by first | exact ⟨(.inr (hk.1.1.1.1.1)), ⟨hk.1.2, hk.2⟩⟩ | exact hk.1 | exact hk | exact ⟨hk.1, hk.2⟩ | exact ⟨.inr hk.1, hk.2⟩ | simp only [hk, ne_eq, not_false_eq_true, and_self]))).2.1 (Kd.R_F (Kd.R_mono (ok' := (fun k_ => (P0_10_ k_ ∨ w.heap.size ≤ k_) ∧ k_ ≠ gb238 ∧ k_ ≠ gb262)) (Kd.R_types (Kd.R_types (HO268.out) BK238.out (by decide)) BK262.out (by decide)) (fun k_ hk => by first | exact ⟨(.inr (hk.1.1.1.1.1)), ⟨hk.1.2, hk.2⟩⟩ | exact hk.1 | exact hk | exact ⟨hk.1, hk.2⟩ | exact ⟨.inr hk.1, hk.2⟩ | simp only [hk, ne_eq, not_false_eq_true, and_self]))))) (Reps.none _ _)))))
   intro v270 w44 ho45 hb hg_ hnew_
   clear hg_ hnew_
   (first | rw [← Ny269.out] at ho45 | (simp only [Int.reduceToNat] at ho45; rw [← Ny269.out] at ho45))
   have n0_ := mk_ (Kd.V_elder' (by (with_reducible repeat (first | apply Kd.V_alloc | apply Kd.V_drewN | apply Kd.V_drew)); exact HO_239010.out) (Kd.N_base ho45) hb)
   have n1_ := mk_ (Kd.N_lower ho45 (below_size (us_ HB.out)))
   have n2_ := mk_ (blk_below (u_ BK238.out) hb)
   have n3_ := mk_ (blk_below (u_ BK262.out) hb)
   have n4_ := mk_ (below_step (us_ HB.out) hb)
   clear HO_239010
   clear BK238
   clear BK262
   clear HB
   clear HO265
   clear HO268
   clear HO_4
   have HO_239010 := n0_
   have HO271 := n1_
   have BK238 := n2_
   have BK262 := n3_
   have HB := n4_
   clear n0_ n1_ n2_ n3_ n4_
   clear hb ho45
   obtain ⟨Ao46, co46, eo46⟩ := Kd.N_slice HO271.out
   (first | subst eo46 | (injection eo46 with f1_ f2_ f3_; have f4_ := f1_.symm; have f5_ := f3_.symm; clear f1_ f2_ f3_; subst f4_; subst f5_))
   refine hK.out _ _ ⟨(blk_cell BK262.out 0).trans rfl, (blk_cell BK262.out 1).trans rfl⟩ (fun hHeld => ?_)
   clear hK K
   refine norm_ (a' := ?_) ?_ ?_
   rotate_left
   ·show Act.put _ (some 61) _ = _
    simp only [Act.put, la_, lz_, ls_, i64_w, i32_w]
    rfl
   refine one_ (i := 8) (N := some 62) #[T_, T_, T_, T_, T_, T_, T_, T_, T_, F_] rfl rfl (one_of HT_.out (by kernel_rfl)) (by decide) (fun K hK => ?_)
   refine goes_ Try.func62 (by kernel_rfl) rfl #[.slice Ao46 y269.length co46] (by rfl) rfl rfl (by (try simp only [lm_, lo_, ln_]); first | done | rfl | (simp only [List.length_drop, List.length_take]; rfl)) ?_
   with_reducible refine (slices_Concat_byte_byte.calls _ _ y269 t272 _ ?side1 ?side2 A33.out).mono ?_
   (case side1 => repeat (first | exact (Kd.N_reads' HO271.out).2.2 | (with_reducible refine Kd.C_alloc ?_ _) | (with_reducible refine Kd.C_drewN ?_ _) | (with_reducible refine Kd.C_drew ?_)))
   (case side2 => exact (Kd.N_reads' HO271.out).2.1)
   rintro e w47 ⟨v273, rfl, ho0, hb⟩
   refine ⟨_, rfl, ?_⟩
   have n0_ := mk_ (Kd.V_elder' (by (with_reducible repeat (first | apply Kd.V_alloc | apply Kd.V_drewN | apply Kd.V_drew)); exact HO_239010.out) (Kd.R_base ho0) hb)
   have n1_ := mk_ (Kd.N_elder' (by (with_reducible repeat (first | apply Kd.N_alloc | apply Kd.N_drewN | apply Kd.N_drew)); exact HO271.out) (Kd.R_base ho0) hb)
   have n2_ := mk_ (Kd.R_lower (Kd.R_newM (M := fun k_ => (w.heap.size ≤ k_)) ho0 (below_size (us_ HB.out)) (fun k_ h_ => h_)) (below_size (us_ HB.out)))
   have n3_ := mk_ (blk_below (u_ BK238.out) hb)
   have n4_ := mk_ (blk_below (u_ BK262.out) hb)
   have n5_ := mk_ (below_step (us_ HB.out) hb)
   clear HO_239010
   clear HO271
   clear BK238
   clear BK262
   clear HB
   have HO_239010 := n0_
   have HO271 := n1_
   have HO274 := n2_
   have BK238 := n3_
   have BK262 := n4_
   have HB := n5_
   clear n0_ n1_ n2_ n3_ n4_ n5_
   (try clear hb)
   (try clear hb2)
   (try clear hk)
   (try clear hi)
   (try clear ho0)
   refine hK.out _ _ ⟨(blk_cell BK262.out 0).trans rfl, (blk_cell BK262.out 1).trans rfl⟩ (fun hHeld => ?_)
   clear hK K
   refine norm_ (a' := ?_) ?_ ?_
   rotate_left
   ·show Act.put _ (some 62) _ = _
    simp only [Act.put, la_, lz_, ls_, i64_w, i32_w]
    rfl
   refine pure_ (i := 9) (N := some 4) (v := ?_) (a' := ?_) #[T_, T_, T_, T_, T_, T_, T_, T_, T_, T_] rfl rfl (any_of HT_.out (by kernel_rfl)) (fun _ _ _ h => h) (Or.inl ⟨by rfl, ?_⟩) ?_ ?_
   rotate_left
   ·intro w'
    go_simp
    with_reducible rfl
   rotate_left
   ·simp only [Act.put, la_, lz_, ls_, i64_w, i32_w]
    rfl
   refine done_ (done_of HT_.out (by kernel_rfl)) ?_
   try go_wp2
   go_roundg k1
   case measure => have := HK1.out; omega
   case rel => exact ⟨(t272), (wrap64 (x50_1 + 1)), (by first | rfl | (simp; done) | (simp [*]; done)), H', ⟨by have := HK1.out; omega⟩, ⟨by (with_reducible repeat (first | apply Kd.R_alloc | apply Kd.R_drewN | apply Kd.R_drew)); exact Kd.R_mono HO274.out (fun _ hk => hk.1)⟩, ⟨by (with_reducible repeat (first | apply Kd.V_alloc | apply Kd.V_drewN | apply Kd.V_drew)); exact Kd.V_mono HO_239010.out (fun _ hk => by first | exact ⟨hk.1.1.1.1.1, ⟨hk.2, hk.1.1.1.1.2.2.1⟩⟩ | exact hk.1 | exact hk | exact ⟨hk.1, hk.2⟩ | exact ⟨.inr hk.1, hk.2⟩ | simp only [hk, ne_eq, not_false_eq_true, and_self])⟩, ⟨u_ BK238.out⟩, ⟨us_ HB.out⟩⟩

end Go.Proofs.Ytfcocnhkimbpbab.MFnExactSegmentBytes
