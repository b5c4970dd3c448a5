/- Functions that the law FnNetOk reaches, each with the proof that the machine's call comes to just its answer; no conditions but those that each theorem states. Printed by a program of this session over the kit's print. -/
import Derived.Test.YtfcocnhkimbpbacMFnNetOkx0
import Derived.Test.YtfcocnhkimbpbacMFnNetOkx4
import Derived.Test.YtfcocnhkimbpbacMFnNetOkx5
namespace Go.Proofs.Ytfcocnhkimbpbac.MFnNetOk
open Go.RowKit Go.Proofs.YtfcocnhkimbpbacV.PrintWords Go.Proofs.YtfcocnhkimbpbacV.PrintLast Go.Proofs.YtfcocnhkimbpbacV.PrintMore
attribute [local go_sem] max2_int min2_int max_two min_two max_three min_three max_four min_four   -- for this text's walks alone
set_option linter.unusedVariables false
set_option linter.unusedSimpArgs false

/-! ### spec_l20Net: function 46 -/
mutual
def spec_l20Net.l0 : Nat → Int → Int → List (S79) → Int → List Int → Int → Option ((List (S79)) × Int)
 | 0, _, _, _, _, _, _ => none
 | k + 1, x1, x5, x6, x7, x1000, x1001 => if x7 < x5 then (spec_l20Net.l1 k x1 x5 x6 x7 0 x1000 x1001 (wrap64 (10 + x7)) ([] : List (S118))) else ((spec_l20Rd_odd.f k x1000 x1001 x1).bind fun bt214 => (if bt214.1 = true then (if 0 < (x6.length : Int) then (if x6.length < 4398046511104 then (some ((x6 ++ [(⟨(rd_T79 x6 0).f0, (rd_T79 x6 0).f1⟩ : S79)]), bt214.2)) else (none)) else (none)) else (some (x6, bt214.2))))
def spec_l20Net.l1 : Nat → Int → Int → List (S79) → Int → Int → List Int → Int → Int → List (S118) → Option ((List (S79)) × Int)
 | 0, _, _, _, _, _, _, _, _, _ => none
 | k + 1, x1, x5, x6, x7, x9, x1000, x1001, x221000, x221001 => if x9 < x5 then (if x9 = x7 then (spec_l20Net.j2 k x1 x5 x6 x7 x9 false x1000 x1001 x221000 x221001) else ((spec_l20Rd_pick.f k x1000 x1001 12).bind fun bt221 => (spec_l20Net.j2 k x1 x5 x6 x7 x9 (decide (bt221.1 > 0)) x1000 bt221.2 x221000 x221001))) else ((spec_l20Rd_pick.f k x1000 x1001 4).bind fun bt239 => (if bt239.1 = 0 then ((spec_l20Rd_pick.f k x1000 bt239.2 x5).bind fun bt241 => ((spec_RoutePut.f k x221001 0 0 (wrap64 (10 + bt241.1)) 8).bind fun bt243 => (if x6.length < 4398046511104 then (spec_l20Net.l0 k x1 x5 (x6 ++ [(⟨x221000, bt243.1⟩ : S79)]) (wrap64 (x7 + 1)) x1000 bt241.2) else (none)))) else (if x6.length < 4398046511104 then (spec_l20Net.l0 k x1 x5 (x6 ++ [(⟨x221000, x221001⟩ : S79)]) (wrap64 (x7 + 1)) x1000 bt239.2) else (none))))
def spec_l20Net.j2 : Nat → Int → Int → List (S79) → Int → Int → Bool → List Int → Int → Int → List (S118) → Option ((List (S79)) × Int)
 | 0, _, _, _, _, _, _, _, _, _, _ => none
 | k + 1, x1, x5, x6, x7, x9, x35, x1000, x1001, x221000, x221001 => if x35 = true then (if x9 < x7 then (spec_l20Net.j3 k x1 x5 x6 x7 x9 (wrap64 ((wrap64 (10 + x7)) - 1)) x1000 x1001 x221000 x221001) else (spec_l20Net.j3 k x1 x5 x6 x7 x9 (wrap64 ((wrap64 (10 + x7)) + 1)) x1000 x1001 x221000 x221001)) else (spec_l20Net.l1 k x1 x5 x6 x7 (wrap64 (x9 + 1)) x1000 x1001 x221000 x221001)
def spec_l20Net.j3 : Nat → Int → Int → List (S79) → Int → Int → Int → List Int → Int → Int → List (S118) → Option ((List (S79)) × Int)
 | 0, _, _, _, _, _, _, _, _, _, _ => none
 | k + 1, x1, x5, x6, x7, x9, x10, x1000, x1001, x221000, x221001 => (spec_l20Rd_pick.f k x1000 x1001 20).bind fun bt223 => (if bt223.1 = 0 then ((spec_l20Rd_pick.f k x1000 bt223.2 (wrap64 (x5 + 1))).bind fun bt225 => ((spec_l20Rd_pick.f k x1000 bt225.2 4).bind fun bt227 => ((spec_RoutePut.f k x221001 (wrap64 (10 + x9)) 16 (wrap64 (10 + bt225.1)) (wrap64 (3 + (wrap64 (bt227.1 * 4))))).bind fun bt229 => (spec_l20Net.l1 k x1 x5 x6 x7 (wrap64 (x9 + 1)) x1000 bt227.2 x221000 bt229.1)))) else ((spec_l20Rd_pick.f k x1000 bt223.2 4).bind fun bt233 => ((spec_RoutePut.f k x221001 (wrap64 (10 + x9)) 16 x10 (wrap64 (3 + (wrap64 (bt233.1 * 4))))).bind fun bt235 => (spec_l20Net.l1 k x1 x5 x6 x7 (wrap64 (x9 + 1)) x1000 bt233.2 x221000 bt235.1))))
end
def spec_l20Net.f (k : Nat) (s0_0 : List Int) (s0_1 : Int) (a1 : Int) : Option ((List (S79)) × Int) := (spec_l20Rd_pick.f k s0_0 s0_1 5).bind fun bt209 => (spec_l20Net.l0 k a1 (wrap64 (1 + bt209.1)) (([] : List (S79))) 0 s0_0 bt209.2)
theorem spec_l20Net.mono_l : ∀ k, (∀ y0 y1 y2 y3 y4 y5, LeO (spec_l20Net.l0 k y0 y1 y2 y3 y4 y5) (spec_l20Net.l0 (k + 1) y0 y1 y2 y3 y4 y5)) ∧ (∀ y0 y1 y2 y3 y4 y5 y6 y7 y8, LeO (spec_l20Net.l1 k y0 y1 y2 y3 y4 y5 y6 y7 y8) (spec_l20Net.l1 (k + 1) y0 y1 y2 y3 y4 y5 y6 y7 y8)) ∧ (∀ y0 y1 y2 y3 y4 y5 y6 y7 y8 y9, LeO (spec_l20Net.j2 k y0 y1 y2 y3 y4 y5 y6 y7 y8 y9) (spec_l20Net.j2 (k + 1) y0 y1 y2 y3 y4 y5 y6 y7 y8 y9)) ∧ (∀ y0 y1 y2 y3 y4 y5 y6 y7 y8 y9, LeO (spec_l20Net.j3 k y0 y1 y2 y3 y4 y5 y6 y7 y8 y9) (spec_l20Net.j3 (k + 1) y0 y1 y2 y3 y4 y5 y6 y7 y8 y9))
 | 0 => ⟨fun _ _ _ _ _ _ r h => by simp [spec_l20Net.l0] at h, fun _ _ _ _ _ _ _ _ _ r h => by simp [spec_l20Net.l1] at h, fun _ _ _ _ _ _ _ _ _ _ r h => by simp [spec_l20Net.j2] at h, fun _ _ _ _ _ _ _ _ _ _ r h => by simp [spec_l20Net.j3] at h⟩
 | k + 1 => by
  obtain ⟨ih0, ih1, ih2, ih3⟩ := spec_l20Net.mono_l k
  refine ⟨?_, ?_, ?_, ?_⟩
  ·intro y0 y1 y2 y3 y4 y5
   unfold spec_l20Net.l0
   repeat' first
   | (with_reducible exact ih0 _ _ _ _ _ _)
   | (with_reducible exact ih1 _ _ _ _ _ _ _ _ _)
   | (with_reducible exact ih2 _ _ _ _ _ _ _ _ _ _)
   | (with_reducible exact ih3 _ _ _ _ _ _ _ _ _ _)
   | (with_reducible exact spec_RoutePut.mono _ _ _ _ _ _)
   | (with_reducible exact spec_l20Rd_odd.mono _ _ _ _)
   | (with_reducible exact spec_l20Rd_pick.mono _ _ _ _)
   | (with_reducible exact LeO.refl _)
   | (with_reducible exact LeO.none _)
   | (with_reducible refine LeO.ite ?_ ?_)
   | (with_reducible refine LeO.bind ?_ (fun _ => ?_))
   | exact ih0 _ _ _ _ _ _
   | exact ih1 _ _ _ _ _ _ _ _ _
   | exact ih2 _ _ _ _ _ _ _ _ _ _
   | exact ih3 _ _ _ _ _ _ _ _ _ _
   | exact spec_RoutePut.mono _ _ _ _ _ _
   | exact spec_l20Rd_odd.mono _ _ _ _
   | exact spec_l20Rd_pick.mono _ _ _ _
   | exact LeO.none _
   | refine LeO.ite ?_ ?_
   | refine LeO.bind ?_ (fun _ => ?_)
  ·intro y0 y1 y2 y3 y4 y5 y6 y7 y8
   unfold spec_l20Net.l1
   repeat' first
   | (with_reducible exact ih0 _ _ _ _ _ _)
   | (with_reducible exact ih1 _ _ _ _ _ _ _ _ _)
   | (with_reducible exact ih2 _ _ _ _ _ _ _ _ _ _)
   | (with_reducible exact ih3 _ _ _ _ _ _ _ _ _ _)
   | (with_reducible exact spec_RoutePut.mono _ _ _ _ _ _)
   | (with_reducible exact spec_l20Rd_odd.mono _ _ _ _)
   | (with_reducible exact spec_l20Rd_pick.mono _ _ _ _)
   | (with_reducible exact LeO.refl _)
   | (with_reducible exact LeO.none _)
   | (with_reducible refine LeO.ite ?_ ?_)
   | (with_reducible refine LeO.bind ?_ (fun _ => ?_))
   | exact ih0 _ _ _ _ _ _
   | exact ih1 _ _ _ _ _ _ _ _ _
   | exact ih2 _ _ _ _ _ _ _ _ _ _
   | exact ih3 _ _ _ _ _ _ _ _ _ _
   | exact spec_RoutePut.mono _ _ _ _ _ _
   | exact spec_l20Rd_odd.mono _ _ _ _
   | exact spec_l20Rd_pick.mono _ _ _ _
   | exact LeO.none _
   | refine LeO.ite ?_ ?_
   | refine LeO.bind ?_ (fun _ => ?_)
  ·intro y0 y1 y2 y3 y4 y5 y6 y7 y8 y9
   unfold spec_l20Net.j2
   repeat' first
   | (with_reducible exact ih0 _ _ _ _ _ _)
   | (with_reducible exact ih1 _ _ _ _ _ _ _ _ _)
   | (with_reducible exact ih2 _ _ _ _ _ _ _ _ _ _)
   | (with_reducible exact ih3 _ _ _ _ _ _ _ _ _ _)
   | (with_reducible exact spec_RoutePut.mono _ _ _ _ _ _)
   | (with_reducible exact spec_l20Rd_odd.mono _ _ _ _)
   | (with_reducible exact spec_l20Rd_pick.mono _ _ _ _)
   | (with_reducible exact LeO.refl _)
   | (with_reducible exact LeO.none _)
   | (with_reducible refine LeO.ite ?_ ?_)
   | (with_reducible refine LeO.bind ?_ (fun _ => ?_))
   | exact ih0 _ _ _ _ _ _
   | exact ih1 _ _ _ _ _ _ _ _ _
   | exact ih2 _ _ _ _ _ _ _ _ _ _
   | exact ih3 _ _ _ _ _ _ _ _ _ _
   | exact spec_RoutePut.mono _ _ _ _ _ _
   | exact spec_l20Rd_odd.mono _ _ _ _
   | exact spec_l20Rd_pick.mono _ _ _ _
   | exact LeO.none _
   | refine LeO.ite ?_ ?_
   | refine LeO.bind ?_ (fun _ => ?_)
  ·intro y0 y1 y2 y3 y4 y5 y6 y7 y8 y9
   unfold spec_l20Net.j3
   repeat' first
   | (with_reducible exact ih0 _ _ _ _ _ _)
   | (with_reducible exact ih1 _ _ _ _ _ _ _ _ _)
   | (with_reducible exact ih2 _ _ _ _ _ _ _ _ _ _)
   | (with_reducible exact ih3 _ _ _ _ _ _ _ _ _ _)
   | (with_reducible exact spec_RoutePut.mono _ _ _ _ _ _)
   | (with_reducible exact spec_l20Rd_odd.mono _ _ _ _)
   | (with_reducible exact spec_l20Rd_pick.mono _ _ _ _)
   | (with_reducible exact LeO.refl _)
   | (with_reducible exact LeO.none _)
   | (with_reducible refine LeO.ite ?_ ?_)
   | (with_reducible refine LeO.bind ?_ (fun _ => ?_))
   | exact ih0 _ _ _ _ _ _
   | exact ih1 _ _ _ _ _ _ _ _ _
   | exact ih2 _ _ _ _ _ _ _ _ _ _
   | exact ih3 _ _ _ _ _ _ _ _ _ _
   | exact spec_RoutePut.mono _ _ _ _ _ _
   | exact spec_l20Rd_odd.mono _ _ _ _
   | exact spec_l20Rd_pick.mono _ _ _ _
   | exact LeO.none _
   | refine LeO.ite ?_ ?_
   | refine LeO.bind ?_ (fun _ => ?_)
theorem spec_l20Net.mono : ∀ a0 a1 a2 k, LeO (spec_l20Net.f k a0 a1 a2) (spec_l20Net.f (k + 1) a0 a1 a2) := by
 intro a0 a1 a2 k
 obtain ⟨ih0, ih1, ih2, ih3⟩ := spec_l20Net.mono_l k
 unfold spec_l20Net.f
 repeat' first
   | (with_reducible exact ih0 _ _ _ _ _ _)
   | (with_reducible exact ih1 _ _ _ _ _ _ _ _ _)
   | (with_reducible exact ih2 _ _ _ _ _ _ _ _ _ _)
   | (with_reducible exact ih3 _ _ _ _ _ _ _ _ _ _)
   | (with_reducible exact spec_RoutePut.mono _ _ _ _ _ _)
   | (with_reducible exact spec_l20Rd_odd.mono _ _ _ _)
   | (with_reducible exact spec_l20Rd_pick.mono _ _ _ _)
   | (with_reducible exact LeO.refl _)
   | (with_reducible exact LeO.none _)
   | (with_reducible refine LeO.ite ?_ ?_)
   | (with_reducible refine LeO.bind ?_ (fun _ => ?_))
   | exact ih0 _ _ _ _ _ _
   | exact ih1 _ _ _ _ _ _ _ _ _
   | exact ih2 _ _ _ _ _ _ _ _ _ _
   | exact ih3 _ _ _ _ _ _ _ _ _ _
   | exact spec_RoutePut.mono _ _ _ _ _ _
   | exact spec_l20Rd_odd.mono _ _ _ _
   | exact spec_l20Rd_pick.mono _ _ _ _
   | exact LeO.none _
   | refine LeO.ite ?_ ?_
   | refine LeO.bind ?_ (fun _ => ?_)
def spec_l20Net.T16 : Bool × List (List Nat × List Nat) := (true, [([], []), ([0], [0]), ([], []), ([2], [2]), ([], []), ([], []), ([5], [5]), ([6], [6]), ([7], [7]), ([3, 4, 8], [3, 4, 8]), ([1, 9, 6], [1, 9]), ([10], [10]), ([11], [11]), ([11], [11]), ([0, 1, 2, 3, 4, 5, 6, 7, 8, 9, 10, 11, 12], []), ([14, 12, 10, 0, 1, 2, 3, 4, 5, 6, 7, 8, 9, 10, 11, 12], [12, 14])])
def spec_l20Net.B16 : List Nat := [0, 1, 0, 4, 0, 0, 32, 96, 224, 508, 1023, 2047, 4095, 4095, 8191, 24575]
theorem spec_l20Net.tab16 : rtab .any (opsOf Try.f46 16) = spec_l20Net.T16 := by kernel_rfl
theorem spec_l20Net.bits16 : waitsOk spec_l20Net.T16.2 spec_l20Net.B16 = true := by kernel_rfl
def spec_l20Net.T18 : Bool × List (List Nat × List Nat) := (true, [([], []), ([0], [0]), ([], []), ([], []), ([2, 3], [2, 3]), ([4], [4]), ([5], [5]), ([1, 6, 4], [1, 6]), ([7], [7]), ([8], [8]), ([8], [8]), ([0, 1, 2, 3, 4, 5, 6, 7, 8, 9], []), ([11, 9, 7, 0, 1, 2, 3, 4, 5, 6, 7, 8, 9], [9, 11])])
def spec_l20Net.B18 : List Nat := [0, 1, 0, 0, 12, 28, 60, 127, 255, 511, 511, 1023, 3071]
theorem spec_l20Net.tab18 : rtab .any (opsOf Try.f46 18) = spec_l20Net.T18 := by kernel_rfl
theorem spec_l20Net.bits18 : waitsOk spec_l20Net.T18.2 spec_l20Net.B18 = true := by kernel_rfl
set_option maxHeartbeats 8000000 in
set_option maxRecDepth 100000 in
theorem spec_l20Net.calls (k : Nat) (g : Nat) (s0_0 : List Int) (s0_1 : Int) (a1 : Int) (r1 : List (S79)) (r2 : Int) (w0 w : World) (hI : IsS109 w0 w g s0_0 s0_1) (hB : Below w0.heap.size w0 w) (h : spec_l20Net.f k s0_0 s0_1 a1 = some (r1, r2)) :
  Calls Try.prog 46 #[.pointer (some ⟨g, 0, none⟩), .int .i64 a1] w fun e w' => ∃ v0_ : Value, e = .returned (v0_) ∧ Kd.N k79 79 w' w.heap.size (fun k_ => (w.heap.size ≤ k_)) v0_ r1 ∧ IsS109 w0 w' g s0_0 r2 ∧ Below w0.heap.size w0 w' ∧ KeepBut w w' g none := by
 have hu79 := Try.underlying79
 have hu118 := Try.underlying118
 have HI0 := mk_ hI
 have HK := mk_ (KeepBut.refl w g none)
 have HL := mk_ hB.size
 clear hI
 have HW0 := mk_ hB.size
 have HB := mk_ hB
 clear hB
 have H : ((spec_l20Rd_pick.f k s0_0 s0_1 5).bind fun bt209 => (spec_l20Net.l0 k a1 (wrap64 (1 + bt209.1)) (([] : List (S79))) 0 s0_0 bt209.2)) = some (r1, r2) := h
 clear h
 replace H := Option.bind_eq_some_iff.mp H
 obtain ⟨⟨t209, t210⟩, A30, H⟩ := H
 replace H : (spec_l20Net.l0 k a1 (wrap64 (1 + t209)) (([] : List (S79))) 0 s0_0 t210) = some (r1, r2) := H
 have A3 := mk_ A30
 clear A30
 obtain ⟨y211, hy211⟩ : ∃ y_ : List (S79), y_ = (([] : List (S79))) := ⟨_, rfl⟩
 replace H : (spec_l20Net.l0 k a1 (wrap64 (1 + t209)) y211 0 s0_0 t210) = some (r1, r2) := by first | (rw [hy211]; with_reducible exact H) | (have H2_ := (Option.bind_some _ _).symm.trans H; rw [hy211]; with_reducible exact H2_) | (have H2_ := (Option.bind_some _ _).symm.trans H; with_reducible exact H2_) | with_reducible exact H | (rw [hy211]; exact H) | exact H
 have Ny211 := mk_ hy211
 clear hy211
 have H' := mk_ H
 clear H
 go_enter Try.func46, Try.ntmps46
 go_wp2_with (first | ((with_reducible refine gate_callee (f := 62) rfl ?_); refine goesL_ (some 12) rfl rfl Try.func62 (by kernel_rfl) rfl #[.pointer (some ⟨g, 0, none⟩), .int .i64 5] rfl (by (try simp only [lm_, lo_, ln_]); first | done | rfl | (simp only [List.length_drop, List.length_take]; rfl)) ?_; (with_reducible refine (spec_l20Rd_pick.calls k g s0_0 s0_1 5 t209 t210 w0 _ ?side1 ?side2 A3.out).mono ?_); (case side1 => repeat (first | (with_reducible first | exact HI0.out | apply IsS109.alloc | apply IsS109.drewN | apply IsS109.drew | apply IsS109.set_1) | exact HI0.out)); (case side2 => repeat (first | (with_reducible first | exact HB.out | apply na_ | apply nn_ | apply nw_ | refine bs_ ?_ (IsS109.ge HI0.out)) | exact HB.out)); rintro e w4 ⟨rfl, hi, hb, hk⟩; refine ⟨_, rfl, ?_⟩; have n0_ := mk_ (KeepBut.trans (by repeat (first | (with_reducible first | exact HK.out | apply KeepBut.set_ | apply keep_drewN | apply keep_drew | apply keep_alloc) | exact HK.out)) hk (.inl rfl)); have n1_ := mk_ (hb); have n2_ := mk_ (hi); clear HK; clear HB; clear HI0; have HK := n0_; have HB := n1_; have HI0 := n2_; clear n0_ n1_ n2_; (try clear hb); (try clear hb2); (try clear hk); (try clear hi)) | ((with_reducible refine gate_dst (N := 14) rfl ?_); refine Kd.N_lit k79 _ 79 ?hg (N' := 14) ?hd (xs := ([] : List (S79))) (inner := []) (ok := (fun k_ => (w.heap.size ≤ k_) ∧ k_ ≠ g)) (okp := (fun k_ => (w.heap.size ≤ k_) ∧ k_ ≠ g)) ?hr ?hp (fun _ hk => hk) ((show ∀ k_, w4.heap.size ≤ k_ → (fun k_ => (w.heap.size ≤ k_) ∧ k_ ≠ g) k_ from fun k_ hk => ⟨(Nat.le_trans (keep_size (w := w) (g := g) (row := none) (by repeat (first | (with_reducible first | exact HK.out | apply KeepBut.set_ | apply keep_drewN | apply keep_drew | apply keep_alloc) | exact HK.out))) hk), IsS109.fresh (by repeat (first | (with_reducible first | exact HI0.out | apply IsS109.alloc | apply IsS109.drewN | apply IsS109.drew | apply IsS109.set_1) | exact HI0.out)) k_ hk⟩) _ (Nat.le_refl _)) (Below.refl _ _) (Nat.le_refl _) (by simp) ?_; (case hd => rfl); (case hg => rfl); (case hr => first | (go_simp; done) | (go_simp; rfl)); (case hp => exact (Reps.none _ _)); intro v212 w5 ho6 hb hg_ hnew_; clear hg_ hnew_; (first | rw [← Ny211.out] at ho6 | (simp only [Int.reduceToNat] at ho6; rw [← Ny211.out] at ho6)); have n0_ := mk_ (Kd.N_lower ho6 (keep_size (w := w) (g := g) (row := none) (by repeat (first | (with_reducible first | exact HK.out | apply KeepBut.set_ | apply keep_drewN | apply keep_drew | apply keep_alloc) | exact HK.out)))); have n1_ := mk_ (IsS109.below (by repeat (first | (with_reducible first | exact HI0.out | apply IsS109.alloc | apply IsS109.drewN | apply IsS109.drew | apply IsS109.set_1) | exact HI0.out)) hb); have n2_ := mk_ (KeepBut.trans (by repeat (first | (with_reducible first | exact HK.out | apply KeepBut.set_ | apply keep_drewN | apply keep_drew | apply keep_alloc) | exact HK.out)) (KeepBut.of_below hb g none) (.inl rfl)); have n3_ := mk_ (below_step (by repeat (first | (with_reducible first | exact HB.out | apply na_ | apply nn_ | apply nw_ | refine bs_ ?_ (IsS109.ge HI0.out)) | exact HB.out)) hb); clear HI0; clear HK; clear HB; have HO213 := n0_; have HI0 := n1_; have HK := n2_; have HB := n3_; clear n0_ n1_ n2_ n3_; clear hb ho6))
 go_loopg [6, 7] k (fun kq v6 v7 w' => ∃ (x6_1 : List (S79)) (x7_1 : Int) (x1001_1 : Int), v7 = .int .i64 x7_1 ∧ Aside0 (spec_l20Net.l0 kq a1 (wrap64 (1 + t209)) x6_1 x7_1 s0_0 x1001_1 = some (r1, r2)) ∧ Aside0 (kq ≤ k) ∧ Aside0 (Kd.N k79 79 w' w.heap.size (fun k_ => (w.heap.size ≤ k_) ∧ k_ ≠ g) v6 x6_1) ∧ Aside0 (IsS109 w0 w' g s0_0 x1001_1) ∧ Aside0 (KeepBut w w' g none) ∧ Aside0 (Below w0.heap.size w0 w'))
 case atStart => exact ⟨(y211), (0), (t210), (by first | rfl | (simp; done) | (simp [*]; done)), H', ⟨Nat.le_refl _⟩, ⟨by (with_reducible repeat (first | apply Kd.N_alloc | apply Kd.N_drewN | apply Kd.N_drew)); exact HO213.out⟩, ⟨by repeat (first | (with_reducible first | exact HI0.out | apply IsS109.alloc | apply IsS109.drewN | apply IsS109.drew | apply IsS109.set_1) | exact HI0.out)⟩, ⟨by repeat (first | (with_reducible first | exact HK.out | apply KeepBut.set_ | apply keep_drewN | apply keep_drew | apply keep_alloc) | exact HK.out)⟩, ⟨by repeat (first | (with_reducible first | exact HB.out | apply na_ | apply nn_ | apply nw_ | refine bs_ ?_ (IsS109.ge HI0.out)) | exact HB.out)⟩⟩
 case round =>
  clear H'
  try clear p2
  try clear c4
  try clear c6
  try clear p6
  obtain ⟨x6_1, x7_1, x1001_1, rfl, HA, HK1, HO_6, HI0, HK, HB⟩ := hrel
  cases gk with
  | zero => exact absurd HA.out (by simp [spec_l20Net.l0])
  | succ k1 =>
   have H := HA.out
   clear HA
   simp only [spec_l20Net.l0] at H
   by_cases c7 : x7_1 < (wrap64 (1 + t209))
   rotate_left
   ·rw [if_neg c7] at H
    have c7b0 : decide (x7_1 < (wrap64 (1 + t209))) = false := decide_eq_false c7
    clear c7
    replace H := Option.bind_eq_some_iff.mp H
    obtain ⟨⟨t214, t215⟩, A630, H⟩ := H
    replace H : (if t214 = true then (if 0 < (x6_1.length : Int) then (if x6_1.length < 4398046511104 then (some ((x6_1 ++ [(⟨(rd_T79 x6_1 0).f0, (rd_T79 x6_1 0).f1⟩ : S79)]), t215)) else (none)) else (none)) else (some (x6_1, t215))) = some (r1, r2) := H
    have A63 := mk_ A630
    clear A630
    by_cases c64 : t214 = true
    rotate_left
    ·replace c64 := Bool.eq_false_iff.mpr c64
     subst c64
     have H1 : (some (x6_1, t215)) = some (r1, r2) := by rw [if_neg (show ¬ (false = true) by decide)] at H; exact H
     clear H
     have H := H1
     clear H1
     simp only [Option.some.injEq, Prod.mk.injEq] at H
     obtain ⟨rfl, rfl⟩ := H
     go_wp2_with (first | ((with_reducible refine gate_callee (f := 67) rfl ?_); refine goesL_ (some 89) rfl rfl Try.func67 (by kernel_rfl) rfl #[.pointer (some ⟨g, 0, none⟩), .int .i64 a1] rfl (by (try simp only [lm_, lo_, ln_]); first | done | rfl | (simp only [List.length_drop, List.length_take]; rfl)) ?_; (with_reducible refine (spec_l20Rd_odd.calls k1 g s0_0 x1001_1 a1 false t215 w0 _ ?side1 ?side2 A63.out).mono ?_); (case side1 => repeat (first | (with_reducible first | exact HI0.out | apply IsS109.alloc | apply IsS109.drewN | apply IsS109.drew | apply IsS109.set_1) | exact HI0.out)); (case side2 => repeat (first | (with_reducible first | exact HB.out | apply na_ | apply nn_ | apply nw_ | refine bs_ ?_ (IsS109.ge HI0.out)) | exact HB.out)); rintro e w70 ⟨rfl, hi, hb, hk⟩; refine ⟨_, rfl, ?_⟩; have n0_ := mk_ (Kd.N_mono (Kd.N_keep (Kd.N_mono (ok := fun k_ => (((w.heap.size ≤ k_)) ∧ k_ ≠ g)) (by (with_reducible repeat (first | apply Kd.N_alloc | apply Kd.N_drewN | apply Kd.N_drew)); exact HO_6.out) (fun k_ hk_ => (⟨hk_, hk_.2⟩ : _ ∧ k_ ≠ g))) hk (fun _ h => h.2)) (fun _ h => h.1)); have n1_ := mk_ (KeepBut.trans (by repeat (first | (with_reducible first | exact HK.out | apply KeepBut.set_ | apply keep_drewN | apply keep_drew | apply keep_alloc) | exact HK.out)) hk (.inl rfl)); have n2_ := mk_ (hb); have n3_ := mk_ (hi); clear HO_6; clear HK; clear HB; clear HI0; have HO_6 := n0_; have HK := n1_; have HB := n2_; have HI0 := n3_; clear n0_ n1_ n2_ n3_; (try clear hb); (try clear hb2); (try clear hk); (try clear hi)))
     go_ret
     exact ⟨_, by first | rfl | (simp [errW_none, errW_some] <;> rfl) | (simp [*, errW_none, errW_some] <;> rfl), by (with_reducible repeat (first | apply Kd.N_alloc | apply Kd.N_drewN | apply Kd.N_drew)); exact Kd.N_mono HO_6.out (fun _ hk => hk.1), by repeat (first | (with_reducible first | exact HI0.out | apply IsS109.alloc | apply IsS109.drewN | apply IsS109.drew | apply IsS109.set_1) | exact HI0.out), by repeat (first | (with_reducible first | exact HB.out | apply na_ | apply nn_ | apply nw_ | refine bs_ ?_ (IsS109.ge HI0.out)) | exact HB.out), by repeat (first | (with_reducible first | exact HK.out | apply KeepBut.set_ | apply keep_drewN | apply keep_drew | apply keep_alloc) | exact HK.out)⟩
    subst c64
    have H1 : (if 0 < (x6_1.length : Int) then (if x6_1.length < 4398046511104 then (some ((x6_1 ++ [(⟨(rd_T79 x6_1 0).f0, (rd_T79 x6_1 0).f1⟩ : S79)]), t215)) else (none)) else (none)) = some (r1, r2) := by rw [if_pos rfl] at H; exact H
    clear H
    have H := H1
    clear H1
    by_cases c65 : 0 < (x6_1.length : Int)
    rotate_left
    ·rw [if_neg c65] at H
     exact absurd H (by simp)
    rw [if_pos c65] at H
    have c65b0 : decide (0 < (x6_1.length : Int)) = true := decide_eq_true c65
    have c65b1 : decide (0 < x6_1.length) = true := decide_eq_true (by omega)
    clear c65
    by_cases c66 : x6_1.length < 4398046511104
    rotate_left
    ·rw [if_neg c66] at H
     exact absurd H (by simp)
    rw [if_pos c66] at H
    have LMc66 := mk_ c66
    clear c66
    obtain ⟨y217, hy217⟩ : ∃ y_ : List (S79), y_ = (x6_1 ++ [(⟨(rd_T79 x6_1 0).f0, (rd_T79 x6_1 0).f1⟩ : S79)]) := ⟨_, rfl⟩
    replace H : (some (y217, t215)) = some (r1, r2) := by first | (rw [hy217]; with_reducible exact H) | (have H2_ := (Option.bind_some _ _).symm.trans H; rw [hy217]; with_reducible exact H2_) | (have H2_ := (Option.bind_some _ _).symm.trans H; with_reducible exact H2_) | with_reducible exact H | (rw [hy217]; exact H) | exact H
    have Ny217 := mk_ hy217
    clear hy217
    simp only [Option.some.injEq, Prod.mk.injEq] at H
    obtain ⟨rfl, rfl⟩ := H
    go_wp2_with (first | ((with_reducible refine gate_callee (f := 67) rfl ?_); refine goesL_ (some 89) rfl rfl Try.func67 (by kernel_rfl) rfl #[.pointer (some ⟨g, 0, none⟩), .int .i64 a1] rfl (by (try simp only [lm_, lo_, ln_]); first | done | rfl | (simp only [List.length_drop, List.length_take]; rfl)) ?_; (with_reducible refine (spec_l20Rd_odd.calls k1 g s0_0 x1001_1 a1 true t215 w0 _ ?side1 ?side2 A63.out).mono ?_); (case side1 => repeat (first | (with_reducible first | exact HI0.out | apply IsS109.alloc | apply IsS109.drewN | apply IsS109.drew | apply IsS109.set_1) | exact HI0.out)); (case side2 => repeat (first | (with_reducible first | exact HB.out | apply na_ | apply nn_ | apply nw_ | refine bs_ ?_ (IsS109.ge HI0.out)) | exact HB.out)); rintro e w67 ⟨rfl, hi, hb, hk⟩; refine ⟨_, rfl, ?_⟩; have n0_ := mk_ (Kd.N_mono (Kd.N_keep (Kd.N_mono (ok := fun k_ => (((w.heap.size ≤ k_)) ∧ k_ ≠ g)) (by (with_reducible repeat (first | apply Kd.N_alloc | apply Kd.N_drewN | apply Kd.N_drew)); exact HO_6.out) (fun k_ hk_ => (⟨hk_, hk_.2⟩ : _ ∧ k_ ≠ g))) hk (fun _ h => h.2)) (fun _ h => h.1)); have n1_ := mk_ (KeepBut.trans (by repeat (first | (with_reducible first | exact HK.out | apply KeepBut.set_ | apply keep_drewN | apply keep_drew | apply keep_alloc) | exact HK.out)) hk (.inl rfl)); have n2_ := mk_ (hb); have n3_ := mk_ (hi); clear HO_6; clear HK; clear HB; clear HI0; have HO_6 := n0_; have HK := n1_; have HB := n2_; have HI0 := n3_; clear n0_ n1_ n2_ n3_; (try clear hb); (try clear hb2); (try clear hk); (try clear hi); obtain ⟨Ao68, co68, eo68⟩ := Kd.N_slice HO_6.out; subst eo68; have p216 : 0 ≤ (0 : Int) := (by omega); have q216 : 0 < (x6_1.length : Int) := of_decide_eq_true (by first | (with_reducible assumption) | assumption); obtain ⟨ad216, A216_1, c216_1, e216, hx216_0, hx216_1, hl216_1, hi216_1⟩ := at_T79 (Kd.N_reads' HO_6.out).2.2 0 p216 q216; cases e216; obtain ⟨ce216, hce216, hMe216, hcc216⟩ := Kd.N_get HO_6.out z79 0 p216 (by first | exact q216 | exact of_decide_eq_true (by first | (with_reducible assumption) | assumption) | (have e_ := (Kd.N_reads' HO_6.out).1; omega)); obtain ⟨ua216_1, uc216_1, rfl, ul216_1, ge216_1⟩ := k79_openF hMe216; have hv216_1 := hcc216 1 _ rfl; rw [add_field _ _ 1 (by omega)] at hv216_1; replace hv216_1 := Option.some.inj (hv216_1.symm.trans hx216_1); injection hv216_1 with hva_ hvn_ hvc_; rw [hva_] at ge216_1; rw [hvc_] at ul216_1; have HL216_1 := mk_ (show Kd.V k118 118 _ w.heap.size _ _ ((rd_T79 x6_1 0).f1) from Kd.V_mk ul216_1 ge216_1); clear hva_ hvn_ hvc_ ge216_1 ul216_1; clear hcc216 hce216; have qi216 : (0 < x6_1.length) = True := eq_true (by omega); (try rw [show ((0 : Int)).toNat = 0 from rfl] at hx216_0); (try rw [show 0 * 2 = 0 from rfl] at hx216_0); (try rw [Addr.add_zero'] at hx216_0); (try rw [show ((0 : Int)).toNat = 0 from rfl] at hx216_1); (try rw [show 0 * 2 = 0 from rfl] at hx216_1); (try rw [Addr.add_zero'] at hx216_1); have HR216_1 := mk_ hi216_1; have HC216_1 := mk_ hl216_1; clear hi216_1 hl216_1; replace p216 := eq_true p216; replace q216 := eq_true q216) | ((with_reducible refine gate_builtin (b := .append) (xs := #[.tmp 90, .tmp 94]) rfl ?_); at_builtin; refine Kd.N_append k79 w.heap.size rfl (.tmp 90) (.tmp 94) 36 79 (.agg #[(.int .i64 0), (.slice none 0 0)]) 32 rfl Try.underlying36 info79 rfl (by decide) (by omega) (.slice (some ad216) x6_1.length co68) x6_1 (⟨(rd_T79 x6_1 0).f0, (rd_T79 x6_1 0).f1⟩ : S79) [.int .i64 ((rd_T79 x6_1 0).f0), .slice A216_1 ((rd_T79 x6_1 0).f1).length c216_1] (fun k_ => (w.heap.size ≤ k_) ∧ k_ ≠ g) (fun k_ => ((fun k_ => (w.heap.size ≤ k_) ∧ k_ ≠ g)) k_ ∧ some k_ ≠ (.slice (some ad216) x6_1.length co68 : Value).ownBlock) rfl rfl ?aP (fun _ hk => hk) ?aF ?aO (Below.refl _ _) ?aS ?aL ?_; (case aP => exact (k79_mkF _ _ (⟨(rd_T79 x6_1 0).f0, (rd_T79 x6_1 0).f1⟩ : S79) (Kd.V_reads' (Kd.V_mono (ok' := (fun k_ => ((fun k_ => (w.heap.size ≤ k_) ∧ k_ ≠ g)) k_ ∧ some k_ ≠ (.slice (some ad216) x6_1.length co68 : Value).ownBlock)) (HL216_1.out) (fun k_ hk => by first | exact ⟨⟨hk.1.1, hk.1.2⟩, hk.2⟩ | exact hk.1 | exact hk | exact ⟨hk.1, hk.2⟩ | exact ⟨.inr hk.1, hk.2⟩ | simp only [hk, ne_eq, not_false_eq_true, and_self]))).2.1 (Kd.V_F (Kd.V_mono (ok' := (fun k_ => ((fun k_ => (w.heap.size ≤ k_) ∧ k_ ≠ g)) k_ ∧ some k_ ≠ (.slice (some ad216) x6_1.length co68 : Value).ownBlock)) (HL216_1.out) (fun k_ hk => by first | exact ⟨⟨hk.1.1, hk.1.2⟩, hk.2⟩ | exact hk.1 | exact hk | exact ⟨hk.1, hk.2⟩ | exact ⟨.inr hk.1, hk.2⟩ | simp only [hk, ne_eq, not_false_eq_true, and_self]))))); (case aF => exact (fun k_ hk => ⟨(Nat.le_trans (keep_size (w := w) (g := g) (row := none) (by repeat (first | (with_reducible first | exact HK.out | apply KeepBut.set_ | apply keep_drewN | apply keep_drew | apply keep_alloc) | exact HK.out))) hk), IsS109.fresh (by repeat (first | (with_reducible first | exact HI0.out | apply IsS109.alloc | apply IsS109.drewN | apply IsS109.drew | apply IsS109.set_1) | exact HI0.out)) k_ hk⟩)); (case aO => exact (by (with_reducible repeat (first | apply Kd.N_alloc | apply Kd.N_drewN | apply Kd.N_drew)); exact HO_6.out)); (case aS => exact (keep_size (w := w) (g := g) (row := none) (by repeat (first | (with_reducible first | exact HK.out | apply KeepBut.set_ | apply keep_drewN | apply keep_drew | apply keep_alloc) | exact HK.out)))); (case aL => have := LMc66.out; omega); intro v218 w69 ho hb hg hat; rw [← Ny217.out] at ho; have n0_ := mk_ (IsS109.grown (by repeat (first | (with_reducible first | exact HI0.out | apply IsS109.alloc | apply IsS109.drewN | apply IsS109.drew | apply IsS109.set_1) | exact HI0.out)) hg (IsS109.own_neN HI0.out HO_6.out (by decide))); have n1_ := mk_ (Kd.V_afterv (ok := (fun k_ => (w.heap.size ≤ k_) ∧ k_ ≠ g)) (by (with_reducible repeat (first | apply Kd.V_alloc | apply Kd.V_drewN | apply Kd.V_drew)); exact HL216_1.out) hg hat); have n2_ := mk_ (below_weaken (by repeat (first | (with_reducible first | exact HB.out | apply na_ | apply nn_ | apply nw_ | refine bs_ ?_ (IsS109.ge HI0.out)) | exact HB.out)) HL.out hb); have n3_ := mk_ (KeepBut.trans (by repeat (first | (with_reducible first | exact HK.out | apply KeepBut.set_ | apply keep_drewN | apply keep_drew | apply keep_alloc) | exact HK.out)) (KeepBut.of_grown hg g) (Kd.N_base2 HO_6.out)); have n4_ := mk_ (ho); clear HI0; clear HL216_1; clear HB; clear HK; clear HO_6; have HI0 := n0_; have HL216_1 := n1_; have HB := n2_; have HK := n3_; have HO219 := n4_; clear n0_ n1_ n2_ n3_ n4_; clear ho hb hg hat))
    go_ret
    exact ⟨_, by first | rfl | (simp [errW_none, errW_some] <;> rfl) | (simp [*, errW_none, errW_some] <;> rfl), by (with_reducible repeat (first | apply Kd.N_alloc | apply Kd.N_drewN | apply Kd.N_drew)); exact Kd.N_mono HO219.out (fun _ hk => hk.1), by repeat (first | (with_reducible first | exact HI0.out | apply IsS109.alloc | apply IsS109.drewN | apply IsS109.drew | apply IsS109.set_1) | exact HI0.out), by repeat (first | (with_reducible first | exact HB.out | apply na_ | apply nn_ | apply nw_ | refine bs_ ?_ (IsS109.ge HI0.out)) | exact HB.out), by repeat (first | (with_reducible first | exact HK.out | apply KeepBut.set_ | apply keep_drewN | apply keep_drew | apply keep_alloc) | exact HK.out)⟩
   rw [if_pos c7] at H
   have c7b0 : decide (x7_1 < (wrap64 (1 + t209))) = true := decide_eq_true c7
   clear c7
   have H' := mk_ H
   clear H
   go_wp2_with (first | ((with_reducible refine gate_dst (N := 8) rfl ?_); refine box_event ?hg (N := 8) ?hd (cs := #[.int .i64 0, .slice none 0 0]) (t := 79) ?hr ?_; (case hd => rfl); (case hg => rfl); (case hr => first | (go_simp; done) | (go_simp; rfl)); intro gb220 hg w8 hbox hb; have n0_ := mk_ (Kd.N_below (Kd.N_elderB (by (with_reducible repeat (first | apply Kd.N_alloc | apply Kd.N_drewN | apply Kd.N_drew)); exact HO_6.out) gb220 (Nat.le_of_eq hg.symm)) hb); have n1_ := mk_ (IsS109.below (by repeat (first | (with_reducible first | exact HI0.out | apply IsS109.alloc | apply IsS109.drewN | apply IsS109.drew | apply IsS109.set_1) | exact HI0.out)) hb); have n2_ := mk_ (KeepBut.trans (by repeat (first | (with_reducible first | exact HK.out | apply KeepBut.set_ | apply keep_drewN | apply keep_drew | apply keep_alloc) | exact HK.out)) (KeepBut.of_below hb g none) (.inl rfl)); have n3_ := mk_ (below_step (by repeat (first | (with_reducible first | exact HB.out | apply na_ | apply nn_ | apply nw_ | refine bs_ ?_ (IsS109.ge HI0.out)) | exact HB.out)) hb); have n4_ := mk_ (hbox); have n5_ := mk_ ((by rw [hg]; exact (keep_size (w := w) (g := g) (row := none) (by repeat (first | (with_reducible first | exact HK.out | apply KeepBut.set_ | apply keep_drewN | apply keep_drew | apply keep_alloc) | exact HK.out))) : w.heap.size ≤ gb220)); have n6_ := mk_ ((Nat.le_trans HW0.out (by rw [hg]; exact (keep_size (w := w) (g := g) (row := none) (by repeat (first | (with_reducible first | exact HK.out | apply KeepBut.set_ | apply keep_drewN | apply keep_drew | apply keep_alloc) | exact HK.out))) : w.heap.size ≤ gb220) : w0.heap.size ≤ gb220)); have n7_ := mk_ ((by rw [hg]; exact Nat.ne_of_lt (IsS109.lt (show IsS109 w0 _ g s0_0 x1001_1 from by repeat (first | (with_reducible first | exact HI0.out | apply IsS109.alloc | apply IsS109.drewN | apply IsS109.drew | apply IsS109.set_1) | exact HI0.out))) : g ≠ gb220)); have n8_ := mk_ ((by rw [hg]; exact Nat.ne_of_gt (IsS109.lt (show IsS109 w0 _ g s0_0 x1001_1 from by repeat (first | (with_reducible first | exact HI0.out | apply IsS109.alloc | apply IsS109.drewN | apply IsS109.drew | apply IsS109.set_1) | exact HI0.out))) : gb220 ≠ g)); clear HO_6; clear HI0; clear HK; clear HB; have HO_6 := n0_; have HI0 := n1_; have HK := n2_; have HB := n3_; have BK220 := n4_; have GW220 := n5_; have GE220 := ge_ n6_.out; have NB0_220 := nq_ n7_.out; have NB220_0 := nq_ n8_.out; clear n0_ n1_ n2_ n3_ n4_ n5_ n6_ n7_ n8_; clear hb hbox hg; have hnb9 := NB220_0.out; have hnc9 := NB0_220.out; obtain ⟨hcz10_0, hcz10_1, hfz10_0, hfz10_1⟩ := cells2_ BK220.out))
   go_loopg [9] k1 (fun kq v9 w' => ∃ (x9_2 : Int) (x1001_2 : Int) (x221001_2 : List (S118)) (u221001 : Value), v9 = .int .i64 x9_2 ∧ Aside0 (spec_l20Net.l1 kq a1 (wrap64 (1 + t209)) x6_1 x7_1 x9_2 s0_0 x1001_2 (wrap64 (10 + x7_1)) x221001_2 = some (r1, r2)) ∧ Aside0 (kq ≤ k1) ∧ Aside0 (Kd.N k79 79 w' w.heap.size (fun k_ => (w.heap.size ≤ k_) ∧ some k_ ≠ (u221001 : Value).ownBlock ∧ k_ ≠ gb220 ∧ k_ ≠ g) u6 x6_1) ∧ Aside0 (Kd.R k118 118 w' w.heap.size (fun k_ => (w.heap.size ≤ k_)) u221001 x221001_2) ∧ Aside0 (w'.heap[gb220]? = some (.cells #[.int .i64 (wrap64 (10 + x7_1)), u221001] 79 (0, 0))) ∧ Aside0 (IsS109 w0 w' g s0_0 x1001_2) ∧ Aside0 (KeepBut w w' g none) ∧ Aside0 (Below w0.heap.size w0 w'))
   case atStart => exact ⟨(0), (x1001_1), (([] : List (S118))), (.slice none 0 0), (by first | rfl | (simp; done) | (simp [*]; done)), H', ⟨Nat.le_refl _⟩, ⟨by (with_reducible repeat (first | apply Kd.N_alloc | apply Kd.N_drewN | apply Kd.N_drew)); exact Kd.N_mono (Kd.N_far (p := ⟨gb220, 1, none⟩) (Kd.N_far (p := ⟨gb220, 0, none⟩) (Kd.N_mono HO_6.out (fun k_ hk => (⟨hk, hk.2⟩ : _ ∧ k_ ≠ gb220))) (fun _ hk => hk.2) (.int .i64 (wrap64 (10 + x7_1)))) (fun _ hk => hk.2) (.slice none 0 0)) (fun _ hk => ⟨hk.1.1.1, ⟨(by simp [Value.ownBlock]), ⟨hk.1.2, hk.1.1.2⟩⟩⟩)⟩, ⟨by first | exact Kd.R_nil _ _ _ _ _ | exact Kd.N_nil _ _ _ _ _ | exact Kd.V_nil _ _ _ _ _ | exact Kd.Q_nil _ _ _ _ _ | exact Kd.S_nil _ _ _ _ _⟩, ⟨by (with_reducible repeat (first | refine bn_ ?_ _ | refine bw_ ?_ | refine ba_ ?_ _)); refine blk_put (cs := #[.int .i64 (wrap64 (10 + x7_1)), .slice none 0 0]) ?_ 1 _ rfl; (with_reducible repeat (first | refine bn_ ?_ _ | refine bw_ ?_ | refine ba_ ?_ _)); refine blk_put (cs := #[.int .i64 0, .slice none 0 0]) ?_ 0 _ rfl; (with_reducible repeat (first | refine bn_ ?_ _ | refine bw_ ?_ | refine ba_ ?_ _)); exact BK220.out⟩, ⟨by repeat (first | (with_reducible first | exact HI0.out | apply IsS109.alloc | apply IsS109.drewN | apply IsS109.drew | apply IsS109.set_1 | refine IsS109.far ?_ NB0_220.out _) | exact HI0.out)⟩, ⟨by repeat (first | (with_reducible first | exact HK.out | apply KeepBut.set_ | apply keep_drewN | apply keep_drew | apply keep_alloc | refine keep_far ?_ GW220.out _) | exact HK.out)⟩, ⟨by repeat (first | (with_reducible first | exact HB.out | apply na_ | apply nn_ | apply nw_ | refine bs_ ?_ (IsS109.ge HI0.out) | refine bs_ ?_ GE220.out) | exact HB.out)⟩⟩
   case round =>
    clear H'
    try clear p2
    try clear c4
    try clear c6
    try clear p6
    try clear c7
    try clear c7b0
    try clear c9
    try clear hcz10_0
    try clear hcz10_1
    try clear hfz10_0
    try clear hfz10_1
    try clear p2
    try clear p6
    obtain ⟨x9_2, x1001_2, x221001_2, u221001, rfl, HA, HK2, HO_6, HO_221001, BK220, HI0, HK, HB⟩ := hrel
    cases gk with
    | zero => exact absurd HA.out (by simp [spec_l20Net.l1])
    | succ k2 =>
     have H := HA.out
     clear HA
     simp only [spec_l20Net.l1] at H
     by_cases c11 : x9_2 < (wrap64 (1 + t209))
     rotate_left
     ·rw [if_neg c11] at H
      have c11b0 : decide (x9_2 < (wrap64 (1 + t209))) = false := decide_eq_false c11
      clear c11
      replace H := Option.bind_eq_some_iff.mp H
      obtain ⟨⟨t239, t240⟩, A410, H⟩ := H
      replace H : (if t239 = 0 then ((spec_l20Rd_pick.f k2 s0_0 t240 (wrap64 (1 + t209))).bind fun bt241 => ((spec_RoutePut.f k2 x221001_2 0 0 (wrap64 (10 + bt241.1)) 8).bind fun bt243 => (if x6_1.length < 4398046511104 then (spec_l20Net.l0 k2 a1 (wrap64 (1 + t209)) (x6_1 ++ [(⟨(wrap64 (10 + x7_1)), bt243.1⟩ : S79)]) (wrap64 (x7_1 + 1)) s0_0 bt241.2) else (none)))) else (if x6_1.length < 4398046511104 then (spec_l20Net.l0 k2 a1 (wrap64 (1 + t209)) (x6_1 ++ [(⟨(wrap64 (10 + x7_1)), x221001_2⟩ : S79)]) (wrap64 (x7_1 + 1)) s0_0 t240) else (none))) = some (r1, r2) := H
      have A41 := mk_ A410
      clear A410
      by_cases c42 : t239 = 0
      rotate_left
      ·rw [if_neg c42] at H
       have c42b0 : (t239 == 0) = false := beq_eq_false_iff_ne.mpr c42
       have c42b1 : (t239 != 0) = true := bne_iff_ne.mpr c42
       by_cases c57 : x6_1.length < 4398046511104
       rotate_left
       ·rw [if_neg c57] at H
        exact absurd H (by simp)
       rw [if_pos c57] at H
       have LMc57 := mk_ c57
       clear c57
       obtain ⟨y250, hy250⟩ : ∃ y_ : List (S79), y_ = (x6_1 ++ [(⟨(wrap64 (10 + x7_1)), x221001_2⟩ : S79)]) := ⟨_, rfl⟩
       replace H : (spec_l20Net.l0 k2 a1 (wrap64 (1 + t209)) y250 (wrap64 (x7_1 + 1)) s0_0 t240) = some (r1, r2) := by first | (rw [hy250]; with_reducible exact H) | (have H2_ := (Option.bind_some _ _).symm.trans H; rw [hy250]; with_reducible exact H2_) | (have H2_ := (Option.bind_some _ _).symm.trans H; with_reducible exact H2_) | with_reducible exact H | (rw [hy250]; exact H) | exact H
       have Ny250 := mk_ hy250
       clear hy250
       have H' := mk_ H
       clear H
       go_wp2_with (first | ((with_reducible refine gate_callee (f := 62) rfl ?_); refine goesL_ (some 69) rfl rfl Try.func62 (by kernel_rfl) rfl #[.pointer (some ⟨g, 0, none⟩), .int .i64 4] rfl (by (try simp only [lm_, lo_, ln_]); first | done | rfl | (simp only [List.length_drop, List.length_take]; rfl)) ?_; (with_reducible refine (spec_l20Rd_pick.calls k2 g s0_0 x1001_2 4 t239 t240 w0 _ ?side1 ?side2 A41.out).mono ?_); (case side1 => repeat (first | (with_reducible first | exact HI0.out | apply IsS109.alloc | apply IsS109.drewN | apply IsS109.drew | apply IsS109.set_1 | refine IsS109.far ?_ NB0_220.out _) | exact HI0.out)); (case side2 => repeat (first | (with_reducible first | exact HB.out | apply na_ | apply nn_ | apply nw_ | refine bs_ ?_ (IsS109.ge HI0.out) | refine bs_ ?_ GE220.out) | exact HB.out)); rintro e w58 ⟨rfl, hi, hb, hk⟩; refine ⟨_, rfl, ?_⟩; have n0_ := mk_ (Kd.N_mono (Kd.N_keep (Kd.N_mono (ok := fun k_ => (((w.heap.size ≤ k_)) ∧ (some k_ ≠ (u221001 : Value).ownBlock ∧ (k_ ≠ gb220 ∧ k_ ≠ g)))) (by (with_reducible repeat (first | apply Kd.N_alloc | apply Kd.N_drewN | apply Kd.N_drew)); exact HO_6.out) (fun k_ hk_ => (⟨hk_, hk_.2.2.2⟩ : _ ∧ k_ ≠ g))) hk (fun _ h => h.2)) (fun _ h => h.1)); have n1_ := mk_ (Kd.R_mono (Kd.R_keep (IsS109.apart (show IsS109 w0 _ g s0_0 x1001_2 from by repeat (first | (with_reducible first | exact HI0.out | apply IsS109.alloc | apply IsS109.drewN | apply IsS109.drew | apply IsS109.set_1 | refine IsS109.far ?_ NB0_220.out _) | exact HI0.out)) (Kd.ur_ HO_221001.out) (by decide)) hk (fun _ h => h.2)) (fun _ h => h.1)); have n2_ := mk_ (KeepBut.blk hk (g' := gb220) (o := .cells #[.int .i64 (wrap64 (10 + x7_1)), u221001] 79 (0, 0)) (u_ BK220.out) NB220_0.out (by simp)); have n3_ := mk_ (KeepBut.trans (by repeat (first | (with_reducible first | exact HK.out | apply KeepBut.set_ | apply keep_drewN | apply keep_drew | apply keep_alloc | refine keep_far ?_ GW220.out _) | exact HK.out)) hk (.inl rfl)); have n4_ := mk_ (hb); have n5_ := mk_ (hi); clear HO_6; clear HO_221001; clear BK220; clear HK; clear HB; clear HI0; have HO_6 := n0_; have HO_221001 := n1_; have BK220 := n2_; have HK := n3_; have HB := n4_; have HI0 := n5_; clear n0_ n1_ n2_ n3_ n4_ n5_; (try clear hb); (try clear hb2); (try clear hk); (try clear hi); have hnb59 := NB220_0.out; have hnc59 := NB0_220.out; obtain ⟨hcz60_0, hcz60_1, hfz60_0, hfz60_1⟩ := cells2_ BK220.out; obtain ⟨Ao62, co62, eo62⟩ := Kd.R_slice HO_221001.out; subst eo62) | ((with_reducible refine gate_builtin (b := .append) (xs := #[.tmp 83, .tmp 85]) rfl ?_); at_builtin; refine Kd.N_append k79 w.heap.size rfl (.tmp 83) (.tmp 85) 36 79 (.agg #[(.int .i64 0), (.slice none 0 0)]) 32 rfl Try.underlying36 info79 rfl (by decide) (by omega) u6 x6_1 (⟨(wrap64 (10 + x7_1)), x221001_2⟩ : S79) [.int .i64 (wrap64 (10 + x7_1)), .slice Ao62 x221001_2.length co62] (fun k_ => (w.heap.size ≤ k_) ∧ k_ ≠ gb220 ∧ k_ ≠ g) (fun k_ => ((fun k_ => (w.heap.size ≤ k_) ∧ k_ ≠ gb220 ∧ k_ ≠ g)) k_ ∧ some k_ ≠ (u6 : Value).ownBlock) rfl rfl ?aP (fun _ hk => hk) ?aF ?aO (Below.refl _ _) ?aS ?aL ?_; (case aP => exact (k79_mkF _ _ (⟨(wrap64 (10 + x7_1)), x221001_2⟩ : S79) (Kd.R_reads' (Kd.R_mono (ok' := (fun k_ => ((fun k_ => (w.heap.size ≤ k_) ∧ k_ ≠ gb220 ∧ k_ ≠ g)) k_ ∧ some k_ ≠ (u6 : Value).ownBlock)) (IsS109.apart HI0.out (Kd.R_types (Kd.R_apart' (HO_221001.out) (Kd.N_typed HO_6.out) (by decide)) BK220.out (by decide)) (by decide)) (fun k_ hk => by first | exact ⟨⟨hk.1.1.1, ⟨hk.1.2, hk.2⟩⟩, hk.1.1.2⟩ | exact hk.1 | exact hk | exact ⟨hk.1, hk.2⟩ | exact ⟨.inr hk.1, hk.2⟩ | simp only [hk, ne_eq, not_false_eq_true, and_self]))).2.1 (Kd.R_F (Kd.R_mono (ok' := (fun k_ => ((fun k_ => (w.heap.size ≤ k_) ∧ k_ ≠ gb220 ∧ k_ ≠ g)) k_ ∧ some k_ ≠ (u6 : Value).ownBlock)) (IsS109.apart HI0.out (Kd.R_types (Kd.R_apart' (HO_221001.out) (Kd.N_typed HO_6.out) (by decide)) BK220.out (by decide)) (by decide)) (fun k_ hk => by first | exact ⟨⟨hk.1.1.1, ⟨hk.1.2, hk.2⟩⟩, hk.1.1.2⟩ | exact hk.1 | exact hk | exact ⟨hk.1, hk.2⟩ | exact ⟨.inr hk.1, hk.2⟩ | simp only [hk, ne_eq, not_false_eq_true, and_self]))))); (case aF => exact (fun k_ hk => ⟨(Nat.le_trans (keep_size (w := w) (g := g) (row := none) (by repeat (first | (with_reducible first | exact HK.out | apply KeepBut.set_ | apply keep_drewN | apply keep_drew | apply keep_alloc | refine keep_far ?_ GW220.out _) | exact HK.out))) hk), Kd.freshB (g := gb220) (o := .cells #[.int .i64 (wrap64 (10 + x7_1)), .slice Ao62 x221001_2.length co62] 79 (0, 0)) (u_ BK220.out) k_ hk, IsS109.fresh (by repeat (first | (with_reducible first | exact HI0.out | apply IsS109.alloc | apply IsS109.drewN | apply IsS109.drew | apply IsS109.set_1 | refine IsS109.far ?_ NB0_220.out _) | exact HI0.out)) k_ hk⟩)); (case aO => exact (by (with_reducible repeat (first | apply Kd.N_alloc | apply Kd.N_drewN | apply Kd.N_drew)); exact Kd.N_mono HO_6.out (fun _ hk => by first | exact ⟨hk.1, ⟨hk.2.2.1, hk.2.2.2⟩⟩ | exact hk.1 | exact hk | exact ⟨hk.1, hk.2⟩ | exact ⟨.inr hk.1, hk.2⟩ | simp only [hk, ne_eq, not_false_eq_true, and_self]))); (case aS => exact (keep_size (w := w) (g := g) (row := none) (by repeat (first | (with_reducible first | exact HK.out | apply KeepBut.set_ | apply keep_drewN | apply keep_drew | apply keep_alloc | refine keep_far ?_ GW220.out _) | exact HK.out)))); (case aL => have := LMc57.out; omega); intro v251 w61 ho hb hg hat; rw [← Ny250.out] at ho; have n0_ := mk_ (blk_grown (g := gb220) (o := .cells #[.int .i64 (wrap64 (10 + x7_1)), .slice Ao62 x221001_2.length co62] 79 (0, 0)) (u_ BK220.out) hg (Kd.N_away HO_6.out (fun _ hk => hk.2.2.1))); have n1_ := mk_ (IsS109.grown (by repeat (first | (with_reducible first | exact HI0.out | apply IsS109.alloc | apply IsS109.drewN | apply IsS109.drew | apply IsS109.set_1 | refine IsS109.far ?_ NB0_220.out _) | exact HI0.out)) hg (IsS109.own_neN HI0.out HO_6.out (by decide))); have n2_ := mk_ (below_weaken (by repeat (first | (with_reducible first | exact HB.out | apply na_ | apply nn_ | apply nw_ | refine bs_ ?_ (IsS109.ge HI0.out) | refine bs_ ?_ GE220.out) | exact HB.out)) HL.out hb); have n3_ := mk_ (KeepBut.trans (by repeat (first | (with_reducible first | exact HK.out | apply KeepBut.set_ | apply keep_drewN | apply keep_drew | apply keep_alloc | refine keep_far ?_ GW220.out _) | exact HK.out)) (KeepBut.of_grown hg g) (Kd.N_base2 HO_6.out)); have n4_ := mk_ (ho); clear BK220; clear HI0; clear HB; clear HK; clear HO_6; clear HO_221001; have BK220 := n0_; have HI0 := n1_; have HB := n2_; have HK := n3_; have HO252 := n4_; clear n0_ n1_ n2_ n3_ n4_; clear ho hb hg hat))
       go_roundg k2
       case measure => have := HK1.out; have := HK2.out; omega
       case rel => exact ⟨(y250), (wrap64 (x7_1 + 1)), (t240), (by first | rfl | (simp; done) | (simp [*]; done)), H', ⟨by have := HK1.out; have := HK2.out; omega⟩, ⟨by (with_reducible repeat (first | apply Kd.N_alloc | apply Kd.N_drewN | apply Kd.N_drew)); exact Kd.N_mono HO252.out (fun _ hk => by first | exact ⟨hk.1, hk.2.2⟩ | exact hk.1 | exact hk | exact ⟨hk.1, hk.2⟩ | exact ⟨.inr hk.1, hk.2⟩ | simp only [hk, ne_eq, not_false_eq_true, and_self])⟩, ⟨by repeat (first | (with_reducible first | exact HI0.out | apply IsS109.alloc | apply IsS109.drewN | apply IsS109.drew | apply IsS109.set_1 | refine IsS109.far ?_ NB0_220.out _) | exact HI0.out)⟩, ⟨by repeat (first | (with_reducible first | exact HK.out | apply KeepBut.set_ | apply keep_drewN | apply keep_drew | apply keep_alloc | refine keep_far ?_ GW220.out _) | exact HK.out)⟩, ⟨by repeat (first | (with_reducible first | exact HB.out | apply na_ | apply nn_ | apply nw_ | refine bs_ ?_ (IsS109.ge HI0.out) | refine bs_ ?_ GE220.out) | exact HB.out)⟩⟩
      rw [if_pos c42] at H
      have c42b0 : (t239 == 0) = true := beq_iff_eq.mpr c42
      have c42b1 : (t239 != 0) = false := bne_eq_false_iff_eq.mpr c42
      clear c42
      replace H := Option.bind_eq_some_iff.mp H
      obtain ⟨⟨t241, t242⟩, A430, H⟩ := H
      replace H : ((spec_RoutePut.f k2 x221001_2 0 0 (wrap64 (10 + t241)) 8).bind fun bt243 => (if x6_1.length < 4398046511104 then (spec_l20Net.l0 k2 a1 (wrap64 (1 + t209)) (x6_1 ++ [(⟨(wrap64 (10 + x7_1)), bt243.1⟩ : S79)]) (wrap64 (x7_1 + 1)) s0_0 t242) else (none))) = some (r1, r2) := H
      have A43 := mk_ A430
      clear A430
      replace H := Option.bind_eq_some_iff.mp H
      obtain ⟨⟨t243, t246⟩, A440, H⟩ := H
      replace H : (if x6_1.length < 4398046511104 then (spec_l20Net.l0 k2 a1 (wrap64 (1 + t209)) (x6_1 ++ [(⟨(wrap64 (10 + x7_1)), t243⟩ : S79)]) (wrap64 (x7_1 + 1)) s0_0 t242) else (none)) = some (r1, r2) := H
      have A44 := mk_ A440
      clear A440
      by_cases c45 : x6_1.length < 4398046511104
      rotate_left
      ·rw [if_neg c45] at H
       exact absurd H (by simp)
      rw [if_pos c45] at H
      have LMc45 := mk_ c45
      clear c45
      obtain ⟨y247, hy247⟩ : ∃ y_ : List (S79), y_ = (x6_1 ++ [(⟨(wrap64 (10 + x7_1)), t243⟩ : S79)]) := ⟨_, rfl⟩
      replace H : (spec_l20Net.l0 k2 a1 (wrap64 (1 + t209)) y247 (wrap64 (x7_1 + 1)) s0_0 t242) = some (r1, r2) := by first | (rw [hy247]; with_reducible exact H) | (have H2_ := (Option.bind_some _ _).symm.trans H; rw [hy247]; with_reducible exact H2_) | (have H2_ := (Option.bind_some _ _).symm.trans H; with_reducible exact H2_) | with_reducible exact H | (rw [hy247]; exact H) | exact H
      have Ny247 := mk_ hy247
      clear hy247
      have H' := mk_ H
      clear H
      try go_wp2_with (first | ((with_reducible refine gate_callee (f := 62) rfl ?_); refine goesL_ (some 69) rfl rfl Try.func62 (by kernel_rfl) rfl #[.pointer (some ⟨g, 0, none⟩), .int .i64 4] rfl (by (try simp only [lm_, lo_, ln_]); first | done | rfl | (simp only [List.length_drop, List.length_take]; rfl)) ?_; (with_reducible refine (spec_l20Rd_pick.calls k2 g s0_0 x1001_2 4 t239 t240 w0 _ ?side1 ?side2 A41.out).mono ?_); (case side1 => repeat (first | (with_reducible first | exact HI0.out | apply IsS109.alloc | apply IsS109.drewN | apply IsS109.drew | apply IsS109.set_1 | refine IsS109.far ?_ NB0_220.out _) | exact HI0.out)); (case side2 => repeat (first | (with_reducible first | exact HB.out | apply na_ | apply nn_ | apply nw_ | refine bs_ ?_ (IsS109.ge HI0.out) | refine bs_ ?_ GE220.out) | exact HB.out)); rintro e w46 ⟨rfl, hi, hb, hk⟩; refine ⟨_, rfl, ?_⟩; have n0_ := mk_ (Kd.N_mono (Kd.N_keep (Kd.N_mono (ok := fun k_ => (((w.heap.size ≤ k_)) ∧ (some k_ ≠ (u221001 : Value).ownBlock ∧ (k_ ≠ gb220 ∧ k_ ≠ g)))) (by (with_reducible repeat (first | apply Kd.N_alloc | apply Kd.N_drewN | apply Kd.N_drew)); exact HO_6.out) (fun k_ hk_ => (⟨hk_, hk_.2.2.2⟩ : _ ∧ k_ ≠ g))) hk (fun _ h => h.2)) (fun _ h => h.1)); have n1_ := mk_ (Kd.R_mono (Kd.R_keep (IsS109.apart (show IsS109 w0 _ g s0_0 x1001_2 from by repeat (first | (with_reducible first | exact HI0.out | apply IsS109.alloc | apply IsS109.drewN | apply IsS109.drew | apply IsS109.set_1 | refine IsS109.far ?_ NB0_220.out _) | exact HI0.out)) (Kd.ur_ HO_221001.out) (by decide)) hk (fun _ h => h.2)) (fun _ h => h.1)); have n2_ := mk_ (KeepBut.blk hk (g' := gb220) (o := .cells #[.int .i64 (wrap64 (10 + x7_1)), u221001] 79 (0, 0)) (u_ BK220.out) NB220_0.out (by simp)); have n3_ := mk_ (KeepBut.trans (by repeat (first | (with_reducible first | exact HK.out | apply KeepBut.set_ | apply keep_drewN | apply keep_drew | apply keep_alloc | refine keep_far ?_ GW220.out _) | exact HK.out)) hk (.inl rfl)); have n4_ := mk_ (hb); have n5_ := mk_ (hi); clear HO_6; clear HO_221001; clear BK220; clear HK; clear HB; clear HI0; have HO_6 := n0_; have HO_221001 := n1_; have BK220 := n2_; have HK := n3_; have HB := n4_; have HI0 := n5_; clear n0_ n1_ n2_ n3_ n4_ n5_; (try clear hb); (try clear hb2); (try clear hk); (try clear hi)))
      have n0_ := mk_ (Kd.N_drew HO_6.out)
      have n1_ := mk_ (Kd.R_drew HO_221001.out)
      have n2_ := mk_ (blk_drew BK220.out)
      have n3_ := mk_ (IsS109.drew HI0.out)
      have n4_ := mk_ (keep_drew HK.out)
      have n5_ := mk_ (below_drew1 HB.out)
      clear HO_6
      clear HO_221001
      clear BK220
      clear HI0
      clear HK
      clear HB
      have HO_6 := n0_
      have HO_221001 := n1_
      have BK220 := n2_
      have HI0 := n3_
      have HK := n4_
      have HB := n5_
      clear n0_ n1_ n2_ n3_ n4_ n5_
      refine start_ (n := 13) (S := fun w' => w'.cell? ⟨gb220, 0, none⟩ = some (.int .i64 (wrap64 (10 + x7_1))) ∧ w'.cell? ⟨gb220, 1, none⟩ = some (u221001)) (ds := [12]) #[F_, F_, F_, F_, F_, F_, F_, F_, F_, F_, F_, F_, F_] (by kernel_rfl) rfl rfl ⟨(blk_cell BK220.out 0).trans rfl, (blk_cell BK220.out 1).trans rfl⟩ (fun hHeld => ?_); refine with_tabW spec_l20Net.tab18 spec_l20Net.bits18 (fun HT_ HW_ => ?_)
      generalize w46.drew = w47 at HO_6 HO_221001 BK220 HI0 HK HB hHeld ⊢
      refine pure_ (i := 0) (N := some 72) (v := ?_) (a' := ?_) #[T_, F_, F_, F_, F_, F_, F_, F_, F_, F_, F_, F_, F_] rfl rfl (any_of HT_.out (by kernel_rfl)) (fun _ _ _ h => h) (Or.inl ⟨by rfl, ?_⟩) ?_ ?_
      rotate_left
      ·intro w'
       go_simp
       with_reducible rfl
      rotate_left
      ·simp only [Act.put, la_, lz_, ls_, i64_w, i32_w]
       rfl
      refine pure_ (i := 2) (N := some 74) (v := ?_) (a' := ?_) #[T_, F_, T_, F_, F_, F_, F_, F_, F_, F_, F_, F_, F_] rfl rfl (any_of HT_.out (by kernel_rfl)) (fun _ _ _ h => h) (Or.inl ⟨by rfl, ?_⟩) ?_ ?_
      rotate_left
      ·intro w'
       go_simp
       with_reducible rfl
      rotate_left
      ·simp only [Act.put, la_, lz_, ls_, i64_w, i32_w]
       rfl
      refine pure_ (i := 3) (N := some 75) (v := ?_) (a' := ?_) #[T_, F_, T_, T_, F_, F_, F_, F_, F_, F_, F_, F_, F_] rfl rfl (any_of HT_.out (by kernel_rfl)) (fun _ _ _ h => h) (Or.inl ⟨by rfl, ?_⟩) ?_ ?_
      rotate_left
      ·intro w'
       go_simp
       with_reducible rfl
      rotate_left
      ·simp only [Act.put, la_, lz_, ls_, i64_w, i32_w]
       rfl
      refine take_ (i := 1) (N := some 73) (v := ?_) (a' := ?_) #[T_, T_, T_, T_, F_, F_, F_, F_, F_, F_, F_, F_, F_] rfl rfl (take_ofW HT_.out HW_.out (by kernel_rfl)) (fun _ _ _ h => h) (Or.inl ⟨by rfl, ?_⟩) hHeld ?_ ?_
      rotate_left
      ·rintro w' ⟨s0, s1⟩
       go_simp
       with_reducible rfl
      rotate_left
      ·simp only [Act.put, la_, lz_, ls_, i64_w, i32_w]
       rfl
      refine one_ (i := 4) (N := some 76) #[T_, T_, T_, T_, T_, F_, F_, F_, F_, F_, F_, F_, F_] rfl rfl (one_of HT_.out (by kernel_rfl)) (by decide) (fun K hK => ?_)
      refine goes_ Try.func62 (by kernel_rfl) rfl #[.pointer (some ⟨g, 0, none⟩), .int .i64 (wrap64 (1 + t209))] (by rfl) rfl rfl (by (try simp only [lm_, lo_, ln_]); first | done | rfl | (simp only [List.length_drop, List.length_take]; rfl)) ?_
      with_reducible refine (spec_l20Rd_pick.calls k2 g s0_0 t240 (wrap64 (1 + t209)) t241 t242 w0 _ ?side1 ?side2 A43.out).mono ?_
      (case side1 => repeat (first | (with_reducible first | exact HI0.out | apply IsS109.alloc | apply IsS109.drewN | apply IsS109.drew | apply IsS109.set_1 | refine IsS109.far ?_ NB0_220.out _) | exact HI0.out))
      (case side2 => repeat (first | (with_reducible first | exact HB.out | apply na_ | apply nn_ | apply nw_ | refine bs_ ?_ (IsS109.ge HI0.out) | refine bs_ ?_ GE220.out) | exact HB.out))
      rintro e w48 ⟨rfl, hi, hb, hk⟩
      refine ⟨_, rfl, ?_⟩
      have n0_ := mk_ (Kd.N_mono (Kd.N_keep (Kd.N_mono (ok := fun k_ => (((w.heap.size ≤ k_)) ∧ (some k_ ≠ (u221001 : Value).ownBlock ∧ (k_ ≠ gb220 ∧ k_ ≠ g)))) (by (with_reducible repeat (first | apply Kd.N_alloc | apply Kd.N_drewN | apply Kd.N_drew)); exact HO_6.out) (fun k_ hk_ => (⟨hk_, hk_.2.2.2⟩ : _ ∧ k_ ≠ g))) hk (fun _ h => h.2)) (fun _ h => h.1))
      have n1_ := mk_ (Kd.R_mono (Kd.R_keep (IsS109.apart (show IsS109 w0 _ g s0_0 t240 from by repeat (first | (with_reducible first | exact HI0.out | apply IsS109.alloc | apply IsS109.drewN | apply IsS109.drew | apply IsS109.set_1 | refine IsS109.far ?_ NB0_220.out _) | exact HI0.out)) (Kd.ur_ HO_221001.out) (by decide)) hk (fun _ h => h.2)) (fun _ h => h.1))
      have n2_ := mk_ (KeepBut.blk hk (g' := gb220) (o := .cells #[.int .i64 (wrap64 (10 + x7_1)), u221001] 79 (0, 0)) (u_ BK220.out) NB220_0.out (by simp))
      have n3_ := mk_ (KeepBut.trans (by repeat (first | (with_reducible first | exact HK.out | apply KeepBut.set_ | apply keep_drewN | apply keep_drew | apply keep_alloc | refine keep_far ?_ GW220.out _) | exact HK.out)) hk (.inl rfl))
      have n4_ := mk_ (hb)
      have n5_ := mk_ (hi)
      clear HO_6
      clear HO_221001
      clear BK220
      clear HK
      clear HB
      clear HI0
      have HO_6 := n0_
      have HO_221001 := n1_
      have BK220 := n2_
      have HK := n3_
      have HB := n4_
      have HI0 := n5_
      clear n0_ n1_ n2_ n3_ n4_ n5_
      (try clear hb)
      (try clear hb2)
      (try clear hk)
      (try clear hi)
      obtain ⟨Ao49, co49, eo49⟩ := Kd.R_slice HO_221001.out
      (first | subst eo49 | (injection eo49 with f1_ f2_ f3_; have f4_ := f1_.symm; have f5_ := f3_.symm; clear f1_ f2_ f3_; subst f4_; subst f5_))
      refine hK.out _ _ ⟨(blk_cell BK220.out 0).trans rfl, (blk_cell BK220.out 1).trans rfl⟩ (fun hHeld => ?_)
      clear hK K
      refine norm_ (a' := ?_) ?_ ?_
      rotate_left
      ·show Act.put _ (some 76) _ = _
       simp only [Act.put, la_, lz_, ls_, i64_w, i32_w]
       rfl
      refine pure_ (i := 5) (N := some 77) (v := ?_) (a' := ?_) #[T_, T_, T_, T_, T_, T_, F_, F_, F_, F_, F_, F_, F_] rfl rfl (any_of HT_.out (by kernel_rfl)) (fun _ _ _ h => h) (Or.inl ⟨by rfl, ?_⟩) ?_ ?_
      rotate_left
      ·intro w'
       go_simp
       with_reducible rfl
      rotate_left
      ·simp only [Act.put, la_, lz_, ls_, i64_w, i32_w]
       rfl
      refine pure_ (i := 6) (N := some 78) (v := ?_) (a' := ?_) #[T_, T_, T_, T_, T_, T_, T_, F_, F_, F_, F_, F_, F_] rfl rfl (any_of HT_.out (by kernel_rfl)) (fun _ _ _ h => h) (Or.inl ⟨by rfl, ?_⟩) ?_ ?_
      rotate_left
      ·intro w'
       go_simp
       with_reducible rfl
      rotate_left
      ·simp only [Act.put, la_, lz_, ls_, i64_w, i32_w]
       rfl
      refine one_ (i := 7) (N := some 79) #[T_, T_, T_, T_, T_, T_, T_, T_, F_, F_, F_, F_, F_] rfl rfl (one_of HT_.out (by kernel_rfl)) (by decide) (fun K hK => ?_)
      refine goes_ Try.func76 (by kernel_rfl) rfl #[.slice Ao49 x221001_2.length co49, .agg #[.int .i64 0, .int .i64 0, .int .i64 (wrap64 (10 + t241)), .int .i64 8]] (by rfl) rfl rfl (by (try simp only [lm_, lo_, ln_]); first | done | rfl | (simp only [List.length_drop, List.length_take]; rfl)) ?_
      with_reducible refine (spec_RoutePut.calls k2 _ _ x221001_2 0 0 (wrap64 (10 + t241)) 8 t243 t246 _ ?side1 ?side2 A44.out).mono ?_
      (case side1 => repeat (first | exact (Kd.R_reads' HO_221001.out).2.2 | (with_reducible refine Kd.C_alloc ?_ _) | (with_reducible refine Kd.C_drewN ?_ _) | (with_reducible refine Kd.C_drew ?_)))
      (case side2 => exact (Kd.R_reads' HO_221001.out).2.1)
      rintro e w50 ⟨v244, rfl, ho0, hb⟩
      refine ⟨_, rfl, ?_⟩
      have n0_ := mk_ (Kd.N_elder' (by (with_reducible repeat (first | apply Kd.N_alloc | apply Kd.N_drewN | apply Kd.N_drew)); exact HO_6.out) (Kd.R_base ho0) hb)
      have n1_ := mk_ (Kd.R_elder' (Kd.ur_ HO_221001.out) (Kd.R_base ho0) hb)
      have n2_ := mk_ (Kd.R_lower (Kd.R_new' (Kd.R_newM (M := fun k_ => (w.heap.size ≤ k_)) ho0 (keep_size (w := w) (g := g) (row := none) (by repeat (first | (with_reducible first | exact HK.out | apply KeepBut.set_ | apply keep_drewN | apply keep_drew | apply keep_alloc | refine keep_far ?_ GW220.out _) | exact HK.out))) (fun k_ h_ => h_)) (Kd.R_lt (Kd.ur_ HO_221001.out))) (keep_size (w := w) (g := g) (row := none) (by repeat (first | (with_reducible first | exact HK.out | apply KeepBut.set_ | apply keep_drewN | apply keep_drew | apply keep_alloc | refine keep_far ?_ GW220.out _) | exact HK.out))))
      have n3_ := mk_ (blk_below (u_ BK220.out) hb)
      have n4_ := mk_ (IsS109.below (by repeat (first | (with_reducible first | exact HI0.out | apply IsS109.alloc | apply IsS109.drewN | apply IsS109.drew | apply IsS109.set_1 | refine IsS109.far ?_ NB0_220.out _) | exact HI0.out)) hb)
      have n5_ := mk_ (KeepBut.trans (by repeat (first | (with_reducible first | exact HK.out | apply KeepBut.set_ | apply keep_drewN | apply keep_drew | apply keep_alloc | refine keep_far ?_ GW220.out _) | exact HK.out)) (KeepBut.of_below hb g none) (.inl rfl))
      have n6_ := mk_ (below_step (by repeat (first | (with_reducible first | exact HB.out | apply na_ | apply nn_ | apply nw_ | refine bs_ ?_ (IsS109.ge HI0.out) | refine bs_ ?_ GE220.out) | exact HB.out)) hb)
      clear HO_6
      clear HO_221001
      clear BK220
      clear HI0
      clear HK
      clear HB
      have HO_6 := n0_
      have HO_221001 := n1_
      have HO245 := n2_
      have BK220 := n3_
      have HI0 := n4_
      have HK := n5_
      have HB := n6_
      clear n0_ n1_ n2_ n3_ n4_ n5_ n6_
      (try clear hb)
      (try clear hb2)
      (try clear hk)
      (try clear hi)
      (try clear ho0)
      obtain ⟨Ao51, co51, eo51⟩ := Kd.R_slice HO245.out
      (first | subst eo51 | (injection eo51 with f1_ f2_ f3_; have f4_ := f1_.symm; have f5_ := f3_.symm; clear f1_ f2_ f3_; subst f4_; subst f5_))
      refine hK.out _ _ ⟨(blk_cell BK220.out 0).trans rfl, (blk_cell BK220.out 1).trans rfl⟩ (fun hHeld => ?_)
      clear hK K
      refine norm_ (a' := ?_) ?_ ?_
      rotate_left
      ·show Act.put _ (some 79) _ = _
       simp only [Act.put, la_, lz_, ls_, i64_w, i32_w]
       rfl
      refine pure_ (i := 8) (N := some 71) (v := ?_) (a' := ?_) #[T_, T_, T_, T_, T_, T_, T_, T_, T_, F_, F_, F_, F_] rfl rfl (any_of HT_.out (by kernel_rfl)) (fun _ _ _ h => h) (Or.inl ⟨by rfl, ?_⟩) ?_ ?_
      rotate_left
      ·intro w'
       go_simp
       with_reducible rfl
      rotate_left
      ·simp only [Act.put, la_, lz_, ls_, i64_w, i32_w]
       rfl
      refine pure_ (i := 9) (N := some 80) (v := ?_) (a' := ?_) #[T_, T_, T_, T_, T_, T_, T_, T_, T_, T_, F_, F_, F_] rfl rfl (any_of HT_.out (by kernel_rfl)) (fun _ _ _ h => h) (Or.inl ⟨by rfl, ?_⟩) ?_ ?_
      rotate_left
      ·intro w'
       go_simp
       with_reducible rfl
      rotate_left
      ·simp only [Act.put, la_, lz_, ls_, i64_w, i32_w]
       rfl
      refine pure_ (i := 10) (N := some 81) (v := ?_) (a' := ?_) #[T_, T_, T_, T_, T_, T_, T_, T_, T_, T_, T_, F_, F_] rfl rfl (any_of HT_.out (by kernel_rfl)) (fun _ _ _ h => h) (Or.inl ⟨by rfl, ?_⟩) ?_ ?_
      rotate_left
      ·intro w'
       go_simp
       with_reducible rfl
      rotate_left
      ·simp only [Act.put, la_, lz_, ls_, i64_w, i32_w]
       rfl
      refine pure_ (i := 11) (N := some 82) (v := ?_) (a' := ?_) #[T_, T_, T_, T_, T_, T_, T_, T_, T_, T_, T_, T_, F_] rfl rfl (any_of HT_.out (by kernel_rfl)) (fun _ _ _ h => h) (Or.inl ⟨by rfl, ?_⟩) ?_ ?_
      rotate_left
      ·intro w'
       go_simp
       with_reducible rfl
      rotate_left
      ·simp only [Act.put, la_, lz_, ls_, i64_w, i32_w]
       rfl
      refine last_ (i := 12) (N := none) #[T_, T_, T_, T_, T_, T_, T_, T_, T_, T_, T_, T_, T_] rfl rfl (one_of HT_.out (by kernel_rfl)) (by decide) (fun K hK => ?_)
      have hs52 : w50.cell? ⟨gb220, 1, none⟩ = some (.slice Ao49 x221001_2.length co49) := (blk_cell BK220.out 1).trans rfl
      have hfs52 := blk_frozen BK220.out 1
      refine skip_ (w1 := ?_) (by rfl) rfl ?_ ?_
      rotate_left
      ·go_simp
       rfl
      refine hK.out _ _ ?_
      clear hK K
      refine done_ (done_of HT_.out (by kernel_rfl)) ?_
      have n0_ : Aside0 (Kd.N k79 79 (w50.setCell ⟨gb220, 1, none⟩ (.slice Ao51 t243.length co51)) w.heap.size (fun k_ => (w.heap.size ≤ k_) ∧ some k_ ≠ (.slice Ao49 x221001_2.length co49 : Value).ownBlock ∧ some k_ ≠ (.slice Ao51 t243.length co51 : Value).ownBlock ∧ k_ ≠ gb220 ∧ k_ ≠ g) u6 x6_1) := ⟨by (with_reducible repeat (first | apply Kd.N_alloc | apply Kd.N_drewN | apply Kd.N_drew)); exact Kd.N_mono (Kd.N_far (p := ⟨gb220, 1, none⟩) (Kd.N_mono HO_6.out (fun k_ hk => (⟨hk, hk.1.2.2.1⟩ : _ ∧ k_ ≠ gb220))) (fun _ hk => hk.2) (.slice Ao51 t243.length co51)) (fun _ hk => by first | exact ⟨hk.1.1.1, ⟨hk.1.1.2.1, ⟨hk.1.2, ⟨hk.1.1.2.2.1, hk.1.1.2.2.2⟩⟩⟩⟩ | exact hk.1 | exact hk | exact ⟨hk.1, hk.2⟩ | exact ⟨.inr hk.1, hk.2⟩ | simp only [hk, ne_eq, not_false_eq_true, and_self])⟩
      have n1_ : Aside0 (Kd.R k118 118 (w50.setCell ⟨gb220, 1, none⟩ (.slice Ao51 t243.length co51)) w.heap.size (fun k_ => (w.heap.size ≤ k_) ∧ some k_ ≠ (.slice Ao51 t243.length co51 : Value).ownBlock) (.slice Ao49 x221001_2.length co49) x221001_2) := ⟨by (with_reducible repeat (first | apply Kd.R_alloc | apply Kd.R_drewN | apply Kd.R_drew)); exact Kd.R_mono (Kd.R_far (p := ⟨gb220, 1, none⟩) (Kd.R_types HO_221001.out BK220.out (by decide)) (fun _ hk => hk.2) (.slice Ao51 t243.length co51)) (fun _ hk => by first | exact ⟨hk.1.1, hk.1.2⟩ | exact hk.1 | exact hk | exact ⟨hk.1, hk.2⟩ | exact ⟨.inr hk.1, hk.2⟩ | simp only [hk, ne_eq, not_false_eq_true, and_self])⟩
      have n2_ : Aside0 (Kd.R k118 118 (w50.setCell ⟨gb220, 1, none⟩ (.slice Ao51 t243.length co51)) w.heap.size (fun k_ => (w.heap.size ≤ k_) ∧ some k_ ≠ (.slice Ao49 x221001_2.length co49 : Value).ownBlock) (.slice Ao51 t243.length co51) t243) := ⟨by (with_reducible repeat (first | apply Kd.R_alloc | apply Kd.R_drewN | apply Kd.R_drew)); exact Kd.R_mono (Kd.R_far (p := ⟨gb220, 1, none⟩) (Kd.R_types HO245.out BK220.out (by decide)) (fun _ hk => hk.2) (.slice Ao51 t243.length co51)) (fun _ hk => by first | exact ⟨hk.1.1.1, hk.1.2⟩ | exact hk.1 | exact hk | exact ⟨hk.1, hk.2⟩ | exact ⟨.inr hk.1, hk.2⟩ | simp only [hk, ne_eq, not_false_eq_true, and_self])⟩
      have n3_ : Aside0 ((w50.setCell ⟨gb220, 1, none⟩ (.slice Ao51 t243.length co51)).heap[gb220]? = some (.cells #[.int .i64 (wrap64 (10 + x7_1)), .slice Ao51 t243.length co51] 79 (0, 0))) := ⟨by (with_reducible repeat (first | refine bn_ ?_ _ | refine bw_ ?_ | refine ba_ ?_ _)); refine blk_put (cs := #[.int .i64 (wrap64 (10 + x7_1)), .slice Ao49 x221001_2.length co49]) ?_ 1 _ rfl; (with_reducible repeat (first | refine bn_ ?_ _ | refine bw_ ?_ | refine ba_ ?_ _)); exact BK220.out⟩
      have n4_ : Aside0 (IsS109 w0 (w50.setCell ⟨gb220, 1, none⟩ (.slice Ao51 t243.length co51)) g s0_0 t242) := ⟨by repeat (first | (with_reducible first | exact HI0.out | apply IsS109.alloc | apply IsS109.drewN | apply IsS109.drew | apply IsS109.set_1 | refine IsS109.far ?_ NB0_220.out _) | exact HI0.out)⟩
      have n5_ : Aside0 (KeepBut w (w50.setCell ⟨gb220, 1, none⟩ (.slice Ao51 t243.length co51)) g none) := ⟨by repeat (first | (with_reducible first | exact HK.out | apply KeepBut.set_ | apply keep_drewN | apply keep_drew | apply keep_alloc | refine keep_far ?_ GW220.out _) | exact HK.out)⟩
      have n6_ : Aside0 (Below w0.heap.size w0 (w50.setCell ⟨gb220, 1, none⟩ (.slice Ao51 t243.length co51))) := ⟨by repeat (first | (with_reducible first | exact HB.out | apply na_ | apply nn_ | apply nw_ | refine bs_ ?_ (IsS109.ge HI0.out) | refine bs_ ?_ GE220.out) | exact HB.out)⟩
      (try clear HO_6)
      (try clear HO_221001)
      (try clear HO245)
      (try clear BK220)
      (try clear HI0)
      (try clear HK)
      (try clear HB)
      generalize (w50.setCell ⟨gb220, 1, none⟩ (.slice Ao51 t243.length co51)) = w53 at n0_ n1_ n2_ n3_ n4_ n5_ n6_ ⊢
      have HO_6 := n0_
      have HO_221001 := n1_
      have HO245 := n2_
      have BK220 := n3_
      have HI0 := n4_
      have HK := n5_
      have HB := n6_
      clear n0_ n1_ n2_ n3_ n4_ n5_ n6_
      have hnb54 := NB220_0.out
      have hnc54 := NB0_220.out
      obtain ⟨hcz55_0, hcz55_1, hfz55_0, hfz55_1⟩ := cells2_ BK220.out
      try go_wp2_with (first | ((with_reducible refine gate_builtin (b := .append) (xs := #[.tmp 83, .tmp 85]) rfl ?_); at_builtin; refine Kd.N_append k79 w.heap.size rfl (.tmp 83) (.tmp 85) 36 79 (.agg #[(.int .i64 0), (.slice none 0 0)]) 32 rfl Try.underlying36 info79 rfl (by decide) (by omega) u6 x6_1 (⟨(wrap64 (10 + x7_1)), t243⟩ : S79) [.int .i64 (wrap64 (10 + x7_1)), .slice Ao51 t243.length co51] (fun k_ => (w.heap.size ≤ k_) ∧ some k_ ≠ (.slice Ao49 x221001_2.length co49 : Value).ownBlock ∧ k_ ≠ gb220 ∧ k_ ≠ g) (fun k_ => ((fun k_ => (w.heap.size ≤ k_) ∧ some k_ ≠ (.slice Ao49 x221001_2.length co49 : Value).ownBlock ∧ k_ ≠ gb220 ∧ k_ ≠ g)) k_ ∧ some k_ ≠ (u6 : Value).ownBlock) rfl rfl ?aP (fun _ hk => hk) ?aF ?aO (Below.refl _ _) ?aS ?aL ?_; (case aP => exact (k79_mkF _ _ (⟨(wrap64 (10 + x7_1)), t243⟩ : S79) (Kd.R_reads' (Kd.R_mono (ok' := (fun k_ => ((fun k_ => (w.heap.size ≤ k_) ∧ some k_ ≠ (.slice Ao49 x221001_2.length co49 : Value).ownBlock ∧ k_ ≠ gb220 ∧ k_ ≠ g)) k_ ∧ some k_ ≠ (u6 : Value).ownBlock)) (IsS109.apart HI0.out (Kd.R_types (Kd.R_apart' (HO245.out) (Kd.N_typed HO_6.out) (by decide)) BK220.out (by decide)) (by decide)) (fun k_ hk => by first | exact ⟨⟨hk.1.1.1.1, ⟨hk.1.1.1.2, ⟨hk.1.2, hk.2⟩⟩⟩, hk.1.1.2⟩ | exact hk.1 | exact hk | exact ⟨hk.1, hk.2⟩ | exact ⟨.inr hk.1, hk.2⟩ | simp only [hk, ne_eq, not_false_eq_true, and_self]))).2.1 (Kd.R_F (Kd.R_mono (ok' := (fun k_ => ((fun k_ => (w.heap.size ≤ k_) ∧ some k_ ≠ (.slice Ao49 x221001_2.length co49 : Value).ownBlock ∧ k_ ≠ gb220 ∧ k_ ≠ g)) k_ ∧ some k_ ≠ (u6 : Value).ownBlock)) (IsS109.apart HI0.out (Kd.R_types (Kd.R_apart' (HO245.out) (Kd.N_typed HO_6.out) (by decide)) BK220.out (by decide)) (by decide)) (fun k_ hk => by first | exact ⟨⟨hk.1.1.1.1, ⟨hk.1.1.1.2, ⟨hk.1.2, hk.2⟩⟩⟩, hk.1.1.2⟩ | exact hk.1 | exact hk | exact ⟨hk.1, hk.2⟩ | exact ⟨.inr hk.1, hk.2⟩ | simp only [hk, ne_eq, not_false_eq_true, and_self]))))); (case aF => exact (fun k_ hk => ⟨(Nat.le_trans (keep_size (w := w) (g := g) (row := none) (by repeat (first | (with_reducible first | exact HK.out | apply KeepBut.set_ | apply keep_drewN | apply keep_drew | apply keep_alloc | refine keep_far ?_ GW220.out _) | exact HK.out))) hk), Kd.fresh' (Kd.R_lt (Kd.ur_ HO_221001.out)) k_ hk, Kd.freshB (g := gb220) (o := .cells #[.int .i64 (wrap64 (10 + x7_1)), .slice Ao51 t243.length co51] 79 (0, 0)) (u_ BK220.out) k_ hk, IsS109.fresh (by repeat (first | (with_reducible first | exact HI0.out | apply IsS109.alloc | apply IsS109.drewN | apply IsS109.drew | apply IsS109.set_1 | refine IsS109.far ?_ NB0_220.out _) | exact HI0.out)) k_ hk⟩)); (case aO => exact (by (with_reducible repeat (first | apply Kd.N_alloc | apply Kd.N_drewN | apply Kd.N_drew)); exact Kd.N_mono HO_6.out (fun _ hk => by first | exact ⟨hk.1, ⟨hk.2.1, ⟨hk.2.2.2.1, hk.2.2.2.2⟩⟩⟩ | exact hk.1 | exact hk | exact ⟨hk.1, hk.2⟩ | exact ⟨.inr hk.1, hk.2⟩ | simp only [hk, ne_eq, not_false_eq_true, and_self]))); (case aS => exact (keep_size (w := w) (g := g) (row := none) (by repeat (first | (with_reducible first | exact HK.out | apply KeepBut.set_ | apply keep_drewN | apply keep_drew | apply keep_alloc | refine keep_far ?_ GW220.out _) | exact HK.out)))); (case aL => have := LMc45.out; omega); intro v248 w56 ho hb hg hat; rw [← Ny247.out] at ho; have n0_ := mk_ (Kd.R_over' (Kd.ur_ HO_221001.out) (Kd.N_typed (by (with_reducible repeat (first | apply Kd.N_alloc | apply Kd.N_drewN | apply Kd.N_drew)); exact HO_6.out)) (by decide) hg); have n1_ := mk_ (blk_grown (g := gb220) (o := .cells #[.int .i64 (wrap64 (10 + x7_1)), .slice Ao51 t243.length co51] 79 (0, 0)) (u_ BK220.out) hg (Kd.N_away HO_6.out (fun _ hk => hk.2.2.2.1))); have n2_ := mk_ (IsS109.grown (by repeat (first | (with_reducible first | exact HI0.out | apply IsS109.alloc | apply IsS109.drewN | apply IsS109.drew | apply IsS109.set_1 | refine IsS109.far ?_ NB0_220.out _) | exact HI0.out)) hg (IsS109.own_neN HI0.out HO_6.out (by decide))); have n3_ := mk_ (below_weaken (by repeat (first | (with_reducible first | exact HB.out | apply na_ | apply nn_ | apply nw_ | refine bs_ ?_ (IsS109.ge HI0.out) | refine bs_ ?_ GE220.out) | exact HB.out)) HL.out hb); have n4_ := mk_ (KeepBut.trans (by repeat (first | (with_reducible first | exact HK.out | apply KeepBut.set_ | apply keep_drewN | apply keep_drew | apply keep_alloc | refine keep_far ?_ GW220.out _) | exact HK.out)) (KeepBut.of_grown hg g) (Kd.N_base2 HO_6.out)); have n5_ := mk_ (ho); clear HO_221001; clear BK220; clear HI0; clear HB; clear HK; clear HO_6; clear HO245; have HO_221001 := n0_; have BK220 := n1_; have HI0 := n2_; have HB := n3_; have HK := n4_; have HO249 := n5_; clear n0_ n1_ n2_ n3_ n4_ n5_; clear ho hb hg hat))
      go_roundg k2
      case measure => have := HK1.out; have := HK2.out; omega
      case rel => exact ⟨(y247), (wrap64 (x7_1 + 1)), (t242), (by first | rfl | (simp; done) | (simp [*]; done)), H', ⟨by have := HK1.out; have := HK2.out; omega⟩, ⟨by (with_reducible repeat (first | apply Kd.N_alloc | apply Kd.N_drewN | apply Kd.N_drew)); exact Kd.N_mono HO249.out (fun _ hk => by first | exact ⟨hk.1, hk.2.2.2⟩ | exact hk.1 | exact hk | exact ⟨hk.1, hk.2⟩ | exact ⟨.inr hk.1, hk.2⟩ | simp only [hk, ne_eq, not_false_eq_true, and_self])⟩, ⟨by repeat (first | (with_reducible first | exact HI0.out | apply IsS109.alloc | apply IsS109.drewN | apply IsS109.drew | apply IsS109.set_1 | refine IsS109.far ?_ NB0_220.out _) | exact HI0.out)⟩, ⟨by repeat (first | (with_reducible first | exact HK.out | apply KeepBut.set_ | apply keep_drewN | apply keep_drew | apply keep_alloc | refine keep_far ?_ GW220.out _) | exact HK.out)⟩, ⟨by repeat (first | (with_reducible first | exact HB.out | apply na_ | apply nn_ | apply nw_ | refine bs_ ?_ (IsS109.ge HI0.out) | refine bs_ ?_ GE220.out) | exact HB.out)⟩⟩
     rw [if_pos c11] at H
     have c11b0 : decide (x9_2 < (wrap64 (1 + t209))) = true := decide_eq_true c11
     clear c11
     have HC12 := mk_ H
     clear H
     go_upto_region 10 with (fail)
     go_cut [35] (fun v35 wc => ∃ (kq : Nat) (x35_11 : Bool) (x1001_11 : Int), v35 = .bool x35_11 ∧ Aside0 (spec_l20Net.j2 kq a1 (wrap64 (1 + t209)) x6_1 x7_1 x9_2 x35_11 s0_0 x1001_11 (wrap64 (10 + x7_1)) x221001_2 = some (r1, r2)) ∧ Aside0 (kq ≤ k2) ∧ Aside0 (Kd.N k79 79 wc w.heap.size (fun k_ => (w.heap.size ≤ k_) ∧ some k_ ≠ (u221001 : Value).ownBlock ∧ k_ ≠ gb220 ∧ k_ ≠ g) u6 x6_1) ∧ Aside0 (Kd.R k118 118 wc w.heap.size (fun k_ => (w.heap.size ≤ k_)) u221001 x221001_2) ∧ Aside0 (wc.heap[gb220]? = some (.cells #[.int .i64 (wrap64 (10 + x7_1)), u221001] 79 (0, 0))) ∧ Aside0 (IsS109 w0 wc g s0_0 x1001_11) ∧ Aside0 (KeepBut w wc g none) ∧ Aside0 (Below w0.heap.size w0 wc))
     case first =>
      have H := HC12.out
      clear HC12
      by_cases c13 : x9_2 = x7_1
      ·rw [if_pos c13] at H
       have c13b0 : (x9_2 == x7_1) = true := beq_iff_eq.mpr c13
       have c13b1 : (x9_2 != x7_1) = false := bne_eq_false_iff_eq.mpr c13
       clear c13
       (first | rw [c13b0] | (simp only [i64_w, i32_w]; rw [c13b0]) | skip)
       have H' := mk_ H
       clear H
       go_wp2
       go_meet
       case rel => exact ⟨_, (false), (x1001_2), (by first | rfl | (simp; done) | (simp [*]; done)), H', ⟨by have := HK1.out; have := HK2.out; first | omega | exact Nat.le_refl _⟩, ⟨by (with_reducible repeat (first | apply Kd.N_alloc | apply Kd.N_drewN | apply Kd.N_drew)); exact HO_6.out⟩, ⟨Kd.ur_ HO_221001.out⟩, ⟨u_ BK220.out⟩, ⟨by repeat (first | (with_reducible first | exact HI0.out | apply IsS109.alloc | apply IsS109.drewN | apply IsS109.drew | apply IsS109.set_1 | refine IsS109.far ?_ NB0_220.out _) | exact HI0.out)⟩, ⟨by repeat (first | (with_reducible first | exact HK.out | apply KeepBut.set_ | apply keep_drewN | apply keep_drew | apply keep_alloc | refine keep_far ?_ GW220.out _) | exact HK.out)⟩, ⟨by repeat (first | (with_reducible first | exact HB.out | apply na_ | apply nn_ | apply nw_ | refine bs_ ?_ (IsS109.ge HI0.out) | refine bs_ ?_ GE220.out) | exact HB.out)⟩⟩
      rw [if_neg c13] at H
      have c13b0 : (x9_2 == x7_1) = false := beq_eq_false_iff_ne.mpr c13
      have c13b1 : (x9_2 != x7_1) = true := bne_iff_ne.mpr c13
      (first | rw [c13b0] | (simp only [i64_w, i32_w]; rw [c13b0]) | skip)
      replace H := Option.bind_eq_some_iff.mp H
      obtain ⟨⟨t221, t222⟩, A140, H⟩ := H
      replace H : (spec_l20Net.j2 k2 a1 (wrap64 (1 + t209)) x6_1 x7_1 x9_2 (decide (t221 > 0)) s0_0 t222 (wrap64 (10 + x7_1)) x221001_2) = some (r1, r2) := H
      have A14 := mk_ A140
      clear A140
      have H' := mk_ H
      clear H
      go_wp2_with (first | (go_at_call 62; (with_reducible refine (spec_l20Rd_pick.calls k2 g s0_0 x1001_2 12 t221 t222 w0 _ ?side1 ?side2 A14.out).mono ?_); (case side1 => repeat (first | (with_reducible first | exact HI0.out | apply IsS109.alloc | apply IsS109.drewN | apply IsS109.drew | apply IsS109.set_1 | refine IsS109.far ?_ NB0_220.out _) | exact HI0.out)); (case side2 => repeat (first | (with_reducible first | exact HB.out | apply na_ | apply nn_ | apply nw_ | refine bs_ ?_ (IsS109.ge HI0.out) | refine bs_ ?_ GE220.out) | exact HB.out)); rintro e w15 ⟨rfl, hi, hb, hk⟩; have n0_ := mk_ (Kd.N_mono (Kd.N_keep (Kd.N_mono (ok := fun k_ => (((w.heap.size ≤ k_)) ∧ (some k_ ≠ (u221001 : Value).ownBlock ∧ (k_ ≠ gb220 ∧ k_ ≠ g)))) (by (with_reducible repeat (first | apply Kd.N_alloc | apply Kd.N_drewN | apply Kd.N_drew)); exact HO_6.out) (fun k_ hk_ => (⟨hk_, hk_.2.2.2⟩ : _ ∧ k_ ≠ g))) hk (fun _ h => h.2)) (fun _ h => h.1)); have n1_ := mk_ (Kd.R_mono (Kd.R_keep (IsS109.apart (show IsS109 w0 _ g s0_0 x1001_2 from by repeat (first | (with_reducible first | exact HI0.out | apply IsS109.alloc | apply IsS109.drewN | apply IsS109.drew | apply IsS109.set_1 | refine IsS109.far ?_ NB0_220.out _) | exact HI0.out)) (Kd.ur_ HO_221001.out) (by decide)) hk (fun _ h => h.2)) (fun _ h => h.1)); have n2_ := mk_ (KeepBut.blk hk (g' := gb220) (o := .cells #[.int .i64 (wrap64 (10 + x7_1)), u221001] 79 (0, 0)) (u_ BK220.out) NB220_0.out (by simp)); have n3_ := mk_ (KeepBut.trans (by repeat (first | (with_reducible first | exact HK.out | apply KeepBut.set_ | apply keep_drewN | apply keep_drew | apply keep_alloc | refine keep_far ?_ GW220.out _) | exact HK.out)) hk (.inl rfl)); have n4_ := mk_ (hb); have n5_ := mk_ (hi); clear HO_6; clear HO_221001; clear BK220; clear HK; clear HB; clear HI0; have HO_6 := n0_; have HO_221001 := n1_; have BK220 := n2_; have HK := n3_; have HB := n4_; have HI0 := n5_; clear n0_ n1_ n2_ n3_ n4_ n5_; (try clear hb); (try clear hb2); (try clear hk); (try clear hi)))
      go_meet
      case rel => exact ⟨_, (decide (t221 > 0)), (t222), (by first | rfl | (simp; done) | (simp [*]; done)), H', ⟨by have := HK1.out; have := HK2.out; first | omega | exact Nat.le_refl _⟩, ⟨by (with_reducible repeat (first | apply Kd.N_alloc | apply Kd.N_drewN | apply Kd.N_drew)); exact HO_6.out⟩, ⟨Kd.ur_ HO_221001.out⟩, ⟨u_ BK220.out⟩, ⟨by repeat (first | (with_reducible first | exact HI0.out | apply IsS109.alloc | apply IsS109.drewN | apply IsS109.drew | apply IsS109.set_1 | refine IsS109.far ?_ NB0_220.out _) | exact HI0.out)⟩, ⟨by repeat (first | (with_reducible first | exact HK.out | apply KeepBut.set_ | apply keep_drewN | apply keep_drew | apply keep_alloc | refine keep_far ?_ GW220.out _) | exact HK.out)⟩, ⟨by repeat (first | (with_reducible first | exact HB.out | apply na_ | apply nn_ | apply nw_ | refine bs_ ?_ (IsS109.ge HI0.out) | refine bs_ ?_ GE220.out) | exact HB.out)⟩⟩
     case rest =>
      clear HC12
      try clear c1
      try clear p2
      try clear c4
      try clear c6
      try clear p6
      try clear c7
      try clear c7b0
      try clear c9
      try clear c11
      try clear c11b0
      try clear c13
      try clear c13b0
      try clear c13b1
      try clear hcz10_0
      try clear hcz10_1
      try clear hfz10_0
      try clear hfz10_1
      try clear p2
      try clear p6
      obtain ⟨kq, x35_11, x1001_11, rfl, HA, HJ11, HO_6, HO_221001, BK220, HI0, HK, HB⟩ := hcut
      cases kq with
      | zero => exact absurd HA.out (by simp [spec_l20Net.j2])
      | succ kj11 =>
       have H := HA.out
       clear HA
       simp only [spec_l20Net.j2] at H
       by_cases c16 : x35_11 = true
       rotate_left
       ·replace c16 := Bool.eq_false_iff.mpr c16
        subst c16
        have H1 : (spec_l20Net.l1 kj11 a1 (wrap64 (1 + t209)) x6_1 x7_1 (wrap64 (x9_2 + 1)) s0_0 x1001_11 (wrap64 (10 + x7_1)) x221001_2) = some (r1, r2) := by rw [if_neg (show ¬ (false = true) by decide)] at H; exact H
        clear H
        have H := H1
        clear H1
        have H' := mk_ H
        clear H
        go_wp2
        go_roundg kj11
        case measure => have := HK1.out; have := HK2.out; have := HJ11.out; omega
        case rel => exact ⟨(wrap64 (x9_2 + 1)), (x1001_11), (x221001_2), (u221001), (by first | rfl | (simp; done) | (simp [*]; done)), H', ⟨by have := HK1.out; have := HK2.out; have := HJ11.out; omega⟩, ⟨by (with_reducible repeat (first | apply Kd.N_alloc | apply Kd.N_drewN | apply Kd.N_drew)); exact HO_6.out⟩, ⟨Kd.ur_ HO_221001.out⟩, ⟨u_ BK220.out⟩, ⟨by repeat (first | (with_reducible first | exact HI0.out | apply IsS109.alloc | apply IsS109.drewN | apply IsS109.drew | apply IsS109.set_1 | refine IsS109.far ?_ NB0_220.out _) | exact HI0.out)⟩, ⟨by repeat (first | (with_reducible first | exact HK.out | apply KeepBut.set_ | apply keep_drewN | apply keep_drew | apply keep_alloc | refine keep_far ?_ GW220.out _) | exact HK.out)⟩, ⟨by repeat (first | (with_reducible first | exact HB.out | apply na_ | apply nn_ | apply nw_ | refine bs_ ?_ (IsS109.ge HI0.out) | refine bs_ ?_ GE220.out) | exact HB.out)⟩⟩
       subst c16
       have H1 : (if x9_2 < x7_1 then (spec_l20Net.j3 kj11 a1 (wrap64 (1 + t209)) x6_1 x7_1 x9_2 (wrap64 ((wrap64 (10 + x7_1)) - 1)) s0_0 x1001_11 (wrap64 (10 + x7_1)) x221001_2) else (spec_l20Net.j3 kj11 a1 (wrap64 (1 + t209)) x6_1 x7_1 x9_2 (wrap64 ((wrap64 (10 + x7_1)) + 1)) s0_0 x1001_11 (wrap64 (10 + x7_1)) x221001_2)) = some (r1, r2) := by rw [if_pos rfl] at H; exact H
       clear H
       have H := H1
       clear H1
       have HC17 := mk_ H
       clear H
       go_upto_if 41 with (fail)
       go_cut [10] (fun v10 wc => ∃ (kq : Nat) (x10_16 : Int), v10 = .int .i64 x10_16 ∧ Aside0 (spec_l20Net.j3 kq a1 (wrap64 (1 + t209)) x6_1 x7_1 x9_2 x10_16 s0_0 x1001_11 (wrap64 (10 + x7_1)) x221001_2 = some (r1, r2)) ∧ Aside0 (kq ≤ kj11) ∧ Aside0 (Kd.N k79 79 wc w.heap.size (fun k_ => (w.heap.size ≤ k_) ∧ some k_ ≠ (u221001 : Value).ownBlock ∧ k_ ≠ gb220 ∧ k_ ≠ g) u6 x6_1) ∧ Aside0 (Kd.R k118 118 wc w.heap.size (fun k_ => (w.heap.size ≤ k_)) u221001 x221001_2) ∧ Aside0 (wc.heap[gb220]? = some (.cells #[.int .i64 (wrap64 (10 + x7_1)), u221001] 79 (0, 0))) ∧ Aside0 (IsS109 w0 wc g s0_0 x1001_11) ∧ Aside0 (KeepBut w wc g none) ∧ Aside0 (Below w0.heap.size w0 wc))
       case first =>
        have H := HC17.out
        clear HC17
        by_cases c18 : x9_2 < x7_1
        ·rw [if_pos c18] at H
         have c18b0 : decide (x9_2 < x7_1) = true := decide_eq_true c18
         clear c18
         (first | rw [c18b0] | (simp only [i64_w, i32_w]; rw [c18b0]) | skip)
         have H' := mk_ H
         clear H
         go_wp2
         go_meet
         case rel => exact ⟨_, (wrap64 ((wrap64 (10 + x7_1)) - 1)), (by first | rfl | (simp; done) | (simp [*]; done)), H', ⟨by have := HK1.out; have := HK2.out; have := HJ11.out; first | omega | exact Nat.le_refl _⟩, ⟨by (with_reducible repeat (first | apply Kd.N_alloc | apply Kd.N_drewN | apply Kd.N_drew)); exact HO_6.out⟩, ⟨Kd.ur_ HO_221001.out⟩, ⟨u_ BK220.out⟩, ⟨by repeat (first | (with_reducible first | exact HI0.out | apply IsS109.alloc | apply IsS109.drewN | apply IsS109.drew | apply IsS109.set_1 | refine IsS109.far ?_ NB0_220.out _) | exact HI0.out)⟩, ⟨by repeat (first | (with_reducible first | exact HK.out | apply KeepBut.set_ | apply keep_drewN | apply keep_drew | apply keep_alloc | refine keep_far ?_ GW220.out _) | exact HK.out)⟩, ⟨by repeat (first | (with_reducible first | exact HB.out | apply na_ | apply nn_ | apply nw_ | refine bs_ ?_ (IsS109.ge HI0.out) | refine bs_ ?_ GE220.out) | exact HB.out)⟩⟩
        rw [if_neg c18] at H
        have c18b0 : decide (x9_2 < x7_1) = false := decide_eq_false c18
        clear c18
        (first | rw [c18b0] | (simp only [i64_w, i32_w]; rw [c18b0]) | skip)
        have H' := mk_ H
        clear H
        go_wp2
        go_meet
        case rel => exact ⟨_, (wrap64 ((wrap64 (10 + x7_1)) + 1)), (by first | rfl | (simp; done) | (simp [*]; done)), H', ⟨by have := HK1.out; have := HK2.out; have := HJ11.out; first | omega | exact Nat.le_refl _⟩, ⟨by (with_reducible repeat (first | apply Kd.N_alloc | apply Kd.N_drewN | apply Kd.N_drew)); exact HO_6.out⟩, ⟨Kd.ur_ HO_221001.out⟩, ⟨u_ BK220.out⟩, ⟨by repeat (first | (with_reducible first | exact HI0.out | apply IsS109.alloc | apply IsS109.drewN | apply IsS109.drew | apply IsS109.set_1 | refine IsS109.far ?_ NB0_220.out _) | exact HI0.out)⟩, ⟨by repeat (first | (with_reducible first | exact HK.out | apply KeepBut.set_ | apply keep_drewN | apply keep_drew | apply keep_alloc | refine keep_far ?_ GW220.out _) | exact HK.out)⟩, ⟨by repeat (first | (with_reducible first | exact HB.out | apply na_ | apply nn_ | apply nw_ | refine bs_ ?_ (IsS109.ge HI0.out) | refine bs_ ?_ GE220.out) | exact HB.out)⟩⟩
       case rest =>
        clear HC17
        try clear c1
        try clear p2
        try clear c4
        try clear c6
        try clear p6
        try clear c7
        try clear c7b0
        try clear c9
        try clear c11
        try clear c11b0
        try clear c13
        try clear c13b0
        try clear c13b1
        try clear c16
        try clear c18
        try clear c18b0
        try clear hcz10_0
        try clear hcz10_1
        try clear hfz10_0
        try clear hfz10_1
        try clear p2
        try clear p6
        obtain ⟨kq, x10_16, rfl, HA, HJ16, HO_6, HO_221001, BK220, HI0, HK, HB⟩ := hcut
        cases kq with
        | zero => exact absurd HA.out (by simp [spec_l20Net.j3])
        | succ kj16 =>
         have H := HA.out
         clear HA
         simp only [spec_l20Net.j3] at H
         replace H := Option.bind_eq_some_iff.mp H
         obtain ⟨⟨t223, t224⟩, A190, H⟩ := H
         replace H : (if t223 = 0 then ((spec_l20Rd_pick.f kj16 s0_0 t224 (wrap64 ((wrap64 (1 + t209)) + 1))).bind fun bt225 => ((spec_l20Rd_pick.f kj16 s0_0 bt225.2 4).bind fun bt227 => ((spec_RoutePut.f kj16 x221001_2 (wrap64 (10 + x9_2)) 16 (wrap64 (10 + bt225.1)) (wrap64 (3 + (wrap64 (bt227.1 * 4))))).bind fun bt229 => (spec_l20Net.l1 kj16 a1 (wrap64 (1 + t209)) x6_1 x7_1 (wrap64 (x9_2 + 1)) s0_0 bt227.2 (wrap64 (10 + x7_1)) bt229.1)))) else ((spec_l20Rd_pick.f kj16 s0_0 t224 4).bind fun bt233 => ((spec_RoutePut.f kj16 x221001_2 (wrap64 (10 + x9_2)) 16 x10_16 (wrap64 (3 + (wrap64 (bt233.1 * 4))))).bind fun bt235 => (spec_l20Net.l1 kj16 a1 (wrap64 (1 + t209)) x6_1 x7_1 (wrap64 (x9_2 + 1)) s0_0 bt233.2 (wrap64 (10 + x7_1)) bt235.1)))) = some (r1, r2) := H
         have A19 := mk_ A190
         clear A190
         by_cases c20 : t223 = 0
         rotate_left
         ·rw [if_neg c20] at H
          have c20b0 : (t223 == 0) = false := beq_eq_false_iff_ne.mpr c20
          have c20b1 : (t223 != 0) = true := bne_iff_ne.mpr c20
          replace H := Option.bind_eq_some_iff.mp H
          obtain ⟨⟨t233, t234⟩, A320, H⟩ := H
          replace H : ((spec_RoutePut.f kj16 x221001_2 (wrap64 (10 + x9_2)) 16 x10_16 (wrap64 (3 + (wrap64 (t233 * 4))))).bind fun bt235 => (spec_l20Net.l1 kj16 a1 (wrap64 (1 + t209)) x6_1 x7_1 (wrap64 (x9_2 + 1)) s0_0 t234 (wrap64 (10 + x7_1)) bt235.1)) = some (r1, r2) := H
          have A32 := mk_ A320
          clear A320
          replace H := Option.bind_eq_some_iff.mp H
          obtain ⟨⟨t235, t238⟩, A330, H⟩ := H
          replace H : (spec_l20Net.l1 kj16 a1 (wrap64 (1 + t209)) x6_1 x7_1 (wrap64 (x9_2 + 1)) s0_0 t234 (wrap64 (10 + x7_1)) t235) = some (r1, r2) := H
          have A33 := mk_ A330
          clear A330
          have H' := mk_ H
          clear H
          try go_wp2_with (first | ((with_reducible refine gate_callee (f := 62) rfl ?_); refine goesL_ (some 46) rfl rfl Try.func62 (by kernel_rfl) rfl #[.pointer (some ⟨g, 0, none⟩), .int .i64 20] rfl (by (try simp only [lm_, lo_, ln_]); first | done | rfl | (simp only [List.length_drop, List.length_take]; rfl)) ?_; (with_reducible refine (spec_l20Rd_pick.calls kj16 g s0_0 x1001_11 20 t223 t224 w0 _ ?side1 ?side2 A19.out).mono ?_); (case side1 => repeat (first | (with_reducible first | exact HI0.out | apply IsS109.alloc | apply IsS109.drewN | apply IsS109.drew | apply IsS109.set_1 | refine IsS109.far ?_ NB0_220.out _) | exact HI0.out)); (case side2 => repeat (first | (with_reducible first | exact HB.out | apply na_ | apply nn_ | apply nw_ | refine bs_ ?_ (IsS109.ge HI0.out) | refine bs_ ?_ GE220.out) | exact HB.out)); rintro e w34 ⟨rfl, hi, hb, hk⟩; refine ⟨_, rfl, ?_⟩; have n0_ := mk_ (Kd.N_mono (Kd.N_keep (Kd.N_mono (ok := fun k_ => (((w.heap.size ≤ k_)) ∧ (some k_ ≠ (u221001 : Value).ownBlock ∧ (k_ ≠ gb220 ∧ k_ ≠ g)))) (by (with_reducible repeat (first | apply Kd.N_alloc | apply Kd.N_drewN | apply Kd.N_drew)); exact HO_6.out) (fun k_ hk_ => (⟨hk_, hk_.2.2.2⟩ : _ ∧ k_ ≠ g))) hk (fun _ h => h.2)) (fun _ h => h.1)); have n1_ := mk_ (Kd.R_mono (Kd.R_keep (IsS109.apart (show IsS109 w0 _ g s0_0 x1001_11 from by repeat (first | (with_reducible first | exact HI0.out | apply IsS109.alloc | apply IsS109.drewN | apply IsS109.drew | apply IsS109.set_1 | refine IsS109.far ?_ NB0_220.out _) | exact HI0.out)) (Kd.ur_ HO_221001.out) (by decide)) hk (fun _ h => h.2)) (fun _ h => h.1)); have n2_ := mk_ (KeepBut.blk hk (g' := gb220) (o := .cells #[.int .i64 (wrap64 (10 + x7_1)), u221001] 79 (0, 0)) (u_ BK220.out) NB220_0.out (by simp)); have n3_ := mk_ (KeepBut.trans (by repeat (first | (with_reducible first | exact HK.out | apply KeepBut.set_ | apply keep_drewN | apply keep_drew | apply keep_alloc | refine keep_far ?_ GW220.out _) | exact HK.out)) hk (.inl rfl)); have n4_ := mk_ (hb); have n5_ := mk_ (hi); clear HO_6; clear HO_221001; clear BK220; clear HK; clear HB; clear HI0; have HO_6 := n0_; have HO_221001 := n1_; have BK220 := n2_; have HK := n3_; have HB := n4_; have HI0 := n5_; clear n0_ n1_ n2_ n3_ n4_ n5_; (try clear hb); (try clear hb2); (try clear hk); (try clear hi)))
          have n0_ := mk_ (Kd.N_drew HO_6.out)
          have n1_ := mk_ (Kd.R_drew HO_221001.out)
          have n2_ := mk_ (blk_drew BK220.out)
          have n3_ := mk_ (IsS109.drew HI0.out)
          have n4_ := mk_ (keep_drew HK.out)
          have n5_ := mk_ (below_drew1 HB.out)
          clear HO_6
          clear HO_221001
          clear BK220
          clear HI0
          clear HK
          clear HB
          have HO_6 := n0_
          have HO_221001 := n1_
          have BK220 := n2_
          have HI0 := n3_
          have HK := n4_
          have HB := n5_
          clear n0_ n1_ n2_ n3_ n4_ n5_
          refine start_ (n := 16) (S := fun w' => w'.cell? ⟨gb220, 0, none⟩ = some (.int .i64 (wrap64 (10 + x7_1))) ∧ w'.cell? ⟨gb220, 1, none⟩ = some (u221001)) (ds := [15]) #[F_, F_, F_, F_, F_, F_, F_, F_, F_, F_, F_, F_, F_, F_, F_, F_] (by kernel_rfl) rfl rfl ⟨(blk_cell BK220.out 0).trans rfl, (blk_cell BK220.out 1).trans rfl⟩ (fun hHeld => ?_); refine with_tabW spec_l20Net.tab16 spec_l20Net.bits16 (fun HT_ HW_ => ?_)
          generalize w34.drew = w35 at HO_6 HO_221001 BK220 HI0 HK HB hHeld ⊢
          refine pure_ (i := 0) (N := some 54) (v := ?_) (a' := ?_) #[T_, F_, F_, F_, F_, F_, F_, F_, F_, F_, F_, F_, F_, F_, F_, F_] rfl rfl (any_of HT_.out (by kernel_rfl)) (fun _ _ _ h => h) (Or.inl ⟨by rfl, ?_⟩) ?_ ?_
          rotate_left
          ·intro w'
           go_simp
           with_reducible rfl
          rotate_left
          ·simp only [Act.put, la_, lz_, ls_, i64_w, i32_w]
           rfl
          refine pure_ (i := 2) (N := some 56) (v := ?_) (a' := ?_) #[T_, F_, T_, F_, F_, F_, F_, F_, F_, F_, F_, F_, F_, F_, F_, F_] rfl rfl (any_of HT_.out (by kernel_rfl)) (fun _ _ _ h => h) (Or.inl ⟨by rfl, ?_⟩) ?_ ?_
          rotate_left
          ·intro w'
           go_simp
           with_reducible rfl
          rotate_left
          ·simp only [Act.put, la_, lz_, ls_, i64_w, i32_w]
           rfl
          refine pure_ (i := 3) (N := some 57) (v := ?_) (a' := ?_) #[T_, F_, T_, T_, F_, F_, F_, F_, F_, F_, F_, F_, F_, F_, F_, F_] rfl rfl (any_of HT_.out (by kernel_rfl)) (fun _ _ _ h => h) (Or.inl ⟨by rfl, ?_⟩) ?_ ?_
          rotate_left
          ·intro w'
           go_simp
           with_reducible rfl
          rotate_left
          ·simp only [Act.put, la_, lz_, ls_, i64_w, i32_w]
           rfl
          refine pure_ (i := 4) (N := some 58) (v := ?_) (a' := ?_) #[T_, F_, T_, T_, T_, F_, F_, F_, F_, F_, F_, F_, F_, F_, F_, F_] rfl rfl (any_of HT_.out (by kernel_rfl)) (fun _ _ _ h => h) (Or.inl ⟨by rfl, ?_⟩) ?_ ?_
          rotate_left
          ·intro w'
           go_simp
           with_reducible rfl
          rotate_left
          ·simp only [Act.put, la_, lz_, ls_, i64_w, i32_w]
           rfl
          refine pure_ (i := 5) (N := some 59) (v := ?_) (a' := ?_) #[T_, F_, T_, T_, T_, T_, F_, F_, F_, F_, F_, F_, F_, F_, F_, F_] rfl rfl (any_of HT_.out (by kernel_rfl)) (fun _ _ _ h => h) (Or.inl ⟨by rfl, ?_⟩) ?_ ?_
          rotate_left
          ·intro w'
           go_simp
           with_reducible rfl
          rotate_left
          ·simp only [Act.put, la_, lz_, ls_, i64_w, i32_w]
           rfl
          refine take_ (i := 1) (N := some 55) (v := ?_) (a' := ?_) #[T_, T_, T_, T_, T_, T_, F_, F_, F_, F_, F_, F_, F_, F_, F_, F_] rfl rfl (take_ofW HT_.out HW_.out (by kernel_rfl)) (fun _ _ _ h => h) (Or.inl ⟨by rfl, ?_⟩) hHeld ?_ ?_
          rotate_left
          ·rintro w' ⟨s0, s1⟩
           go_simp
           with_reducible rfl
          rotate_left
          ·simp only [Act.put, la_, lz_, ls_, i64_w, i32_w]
           rfl
          refine one_ (i := 6) (N := some 60) #[T_, T_, T_, T_, T_, T_, T_, F_, F_, F_, F_, F_, F_, F_, F_, F_] rfl rfl (one_of HT_.out (by kernel_rfl)) (by decide) (fun K hK => ?_)
          refine goes_ Try.func62 (by kernel_rfl) rfl #[.pointer (some ⟨g, 0, none⟩), .int .i64 4] (by rfl) rfl rfl (by (try simp only [lm_, lo_, ln_]); first | done | rfl | (simp only [List.length_drop, List.length_take]; rfl)) ?_
          with_reducible refine (spec_l20Rd_pick.calls kj16 g s0_0 t224 4 t233 t234 w0 _ ?side1 ?side2 A32.out).mono ?_
          (case side1 => repeat (first | (with_reducible first | exact HI0.out | apply IsS109.alloc | apply IsS109.drewN | apply IsS109.drew | apply IsS109.set_1 | refine IsS109.far ?_ NB0_220.out _) | exact HI0.out))
          (case side2 => repeat (first | (with_reducible first | exact HB.out | apply na_ | apply nn_ | apply nw_ | refine bs_ ?_ (IsS109.ge HI0.out) | refine bs_ ?_ GE220.out) | exact HB.out))
          rintro e w36 ⟨rfl, hi, hb, hk⟩
          refine ⟨_, rfl, ?_⟩
          have n0_ := mk_ (Kd.N_mono (Kd.N_keep (Kd.N_mono (ok := fun k_ => (((w.heap.size ≤ k_)) ∧ (some k_ ≠ (u221001 : Value).ownBlock ∧ (k_ ≠ gb220 ∧ k_ ≠ g)))) (by (with_reducible repeat (first | apply Kd.N_alloc | apply Kd.N_drewN | apply Kd.N_drew)); exact HO_6.out) (fun k_ hk_ => (⟨hk_, hk_.2.2.2⟩ : _ ∧ k_ ≠ g))) hk (fun _ h => h.2)) (fun _ h => h.1))
          have n1_ := mk_ (Kd.R_mono (Kd.R_keep (IsS109.apart (show IsS109 w0 _ g s0_0 t224 from by repeat (first | (with_reducible first | exact HI0.out | apply IsS109.alloc | apply IsS109.drewN | apply IsS109.drew | apply IsS109.set_1 | refine IsS109.far ?_ NB0_220.out _) | exact HI0.out)) (Kd.ur_ HO_221001.out) (by decide)) hk (fun _ h => h.2)) (fun _ h => h.1))
          have n2_ := mk_ (KeepBut.blk hk (g' := gb220) (o := .cells #[.int .i64 (wrap64 (10 + x7_1)), u221001] 79 (0, 0)) (u_ BK220.out) NB220_0.out (by simp))
          have n3_ := mk_ (KeepBut.trans (by repeat (first | (with_reducible first | exact HK.out | apply KeepBut.set_ | apply keep_drewN | apply keep_drew | apply keep_alloc | refine keep_far ?_ GW220.out _) | exact HK.out)) hk (.inl rfl))
          have n4_ := mk_ (hb)
          have n5_ := mk_ (hi)
          clear HO_6
          clear HO_221001
          clear BK220
          clear HK
          clear HB
          clear HI0
          have HO_6 := n0_
          have HO_221001 := n1_
          have BK220 := n2_
          have HK := n3_
          have HB := n4_
          have HI0 := n5_
          clear n0_ n1_ n2_ n3_ n4_ n5_
          (try clear hb)
          (try clear hb2)
          (try clear hk)
          (try clear hi)
          obtain ⟨Ao37, co37, eo37⟩ := Kd.R_slice HO_221001.out
          (first | subst eo37 | (injection eo37 with f1_ f2_ f3_; have f4_ := f1_.symm; have f5_ := f3_.symm; clear f1_ f2_ f3_; subst f4_; subst f5_))
          refine hK.out _ _ ⟨(blk_cell BK220.out 0).trans rfl, (blk_cell BK220.out 1).trans rfl⟩ (fun hHeld => ?_)
          clear hK K
          refine norm_ (a' := ?_) ?_ ?_
          rotate_left
          ·show Act.put _ (some 60) _ = _
           simp only [Act.put, la_, lz_, ls_, i64_w, i32_w]
           rfl
          refine pure_ (i := 7) (N := some 61) (v := ?_) (a' := ?_) #[T_, T_, T_, T_, T_, T_, T_, T_, F_, F_, F_, F_, F_, F_, F_, F_] rfl rfl (any_of HT_.out (by kernel_rfl)) (fun _ _ _ h => h) (Or.inl ⟨by rfl, ?_⟩) ?_ ?_
          rotate_left
          ·intro w'
           go_simp
           with_reducible rfl
          rotate_left
          ·simp only [Act.put, la_, lz_, ls_, i64_w, i32_w]
           rfl
          refine pure_ (i := 8) (N := some 62) (v := ?_) (a' := ?_) #[T_, T_, T_, T_, T_, T_, T_, T_, T_, F_, F_, F_, F_, F_, F_, F_] rfl rfl (any_of HT_.out (by kernel_rfl)) (fun _ _ _ h => h) (Or.inl ⟨by rfl, ?_⟩) ?_ ?_
          rotate_left
          ·intro w'
           go_simp
           with_reducible rfl
          rotate_left
          ·simp only [Act.put, la_, lz_, ls_, i64_w, i32_w]
           rfl
          refine pure_ (i := 9) (N := some 63) (v := ?_) (a' := ?_) #[T_, T_, T_, T_, T_, T_, T_, T_, T_, T_, F_, F_, F_, F_, F_, F_] rfl rfl (any_of HT_.out (by kernel_rfl)) (fun _ _ _ h => h) (Or.inl ⟨by rfl, ?_⟩) ?_ ?_
          rotate_left
          ·intro w'
           go_simp
           with_reducible rfl
          rotate_left
          ·simp only [Act.put, la_, lz_, ls_, i64_w, i32_w]
           rfl
          refine one_ (i := 10) (N := some 64) #[T_, T_, T_, T_, T_, T_, T_, T_, T_, T_, T_, F_, F_, F_, F_, F_] rfl rfl (one_of HT_.out (by kernel_rfl)) (by decide) (fun K hK => ?_)
          refine goes_ Try.func76 (by kernel_rfl) rfl #[.slice Ao37 x221001_2.length co37, .agg #[.int .i64 (wrap64 (10 + x9_2)), .int .i64 16, .int .i64 x10_16, .int .i64 (wrap64 (3 + (wrap64 (t233 * 4))))]] (by rfl) rfl rfl (by (try simp only [lm_, lo_, ln_]); first | done | rfl | (simp only [List.length_drop, List.length_take]; rfl)) ?_
          with_reducible refine (spec_RoutePut.calls kj16 _ _ x221001_2 (wrap64 (10 + x9_2)) 16 x10_16 (wrap64 (3 + (wrap64 (t233 * 4)))) t235 t238 _ ?side1 ?side2 A33.out).mono ?_
          (case side1 => repeat (first | exact (Kd.R_reads' HO_221001.out).2.2 | (with_reducible refine Kd.C_alloc ?_ _) | (with_reducible refine Kd.C_drewN ?_ _) | (with_reducible refine Kd.C_drew ?_)))
          (case side2 => exact (Kd.R_reads' HO_221001.out).2.1)
          rintro e w38 ⟨v236, rfl, ho0, hb⟩
          refine ⟨_, rfl, ?_⟩
          have n0_ := mk_ (Kd.N_elder' (by (with_reducible repeat (first | apply Kd.N_alloc | apply Kd.N_drewN | apply Kd.N_drew)); exact HO_6.out) (Kd.R_base ho0) hb)
          have n1_ := mk_ (Kd.R_elder' (Kd.ur_ HO_221001.out) (Kd.R_base ho0) hb)
          have n2_ := mk_ (Kd.R_lower (Kd.R_new' (Kd.R_newM (M := fun k_ => (w.heap.size ≤ k_)) ho0 (keep_size (w := w) (g := g) (row := none) (by repeat (first | (with_reducible first | exact HK.out | apply KeepBut.set_ | apply keep_drewN | apply keep_drew | apply keep_alloc | refine keep_far ?_ GW220.out _) | exact HK.out))) (fun k_ h_ => h_)) (Kd.R_lt (Kd.ur_ HO_221001.out))) (keep_size (w := w) (g := g) (row := none) (by repeat (first | (with_reducible first | exact HK.out | apply KeepBut.set_ | apply keep_drewN | apply keep_drew | apply keep_alloc | refine keep_far ?_ GW220.out _) | exact HK.out))))
          have n3_ := mk_ (blk_below (u_ BK220.out) hb)
          have n4_ := mk_ (IsS109.below (by repeat (first | (with_reducible first | exact HI0.out | apply IsS109.alloc | apply IsS109.drewN | apply IsS109.drew | apply IsS109.set_1 | refine IsS109.far ?_ NB0_220.out _) | exact HI0.out)) hb)
          have n5_ := mk_ (KeepBut.trans (by repeat (first | (with_reducible first | exact HK.out | apply KeepBut.set_ | apply keep_drewN | apply keep_drew | apply keep_alloc | refine keep_far ?_ GW220.out _) | exact HK.out)) (KeepBut.of_below hb g none) (.inl rfl))
          have n6_ := mk_ (below_step (by repeat (first | (with_reducible first | exact HB.out | apply na_ | apply nn_ | apply nw_ | refine bs_ ?_ (IsS109.ge HI0.out) | refine bs_ ?_ GE220.out) | exact HB.out)) hb)
          clear HO_6
          clear HO_221001
          clear BK220
          clear HI0
          clear HK
          clear HB
          have HO_6 := n0_
          have HO_221001 := n1_
          have HO237 := n2_
          have BK220 := n3_
          have HI0 := n4_
          have HK := n5_
          have HB := n6_
          clear n0_ n1_ n2_ n3_ n4_ n5_ n6_
          (try clear hb)
          (try clear hb2)
          (try clear hk)
          (try clear hi)
          (try clear ho0)
          obtain ⟨Ao39, co39, eo39⟩ := Kd.R_slice HO237.out
          (first | subst eo39 | (injection eo39 with f1_ f2_ f3_; have f4_ := f1_.symm; have f5_ := f3_.symm; clear f1_ f2_ f3_; subst f4_; subst f5_))
          refine hK.out _ _ ⟨(blk_cell BK220.out 0).trans rfl, (blk_cell BK220.out 1).trans rfl⟩ (fun hHeld => ?_)
          clear hK K
          refine norm_ (a' := ?_) ?_ ?_
          rotate_left
          ·show Act.put _ (some 64) _ = _
           simp only [Act.put, la_, lz_, ls_, i64_w, i32_w]
           rfl
          refine pure_ (i := 11) (N := some 53) (v := ?_) (a' := ?_) #[T_, T_, T_, T_, T_, T_, T_, T_, T_, T_, T_, T_, F_, F_, F_, F_] rfl rfl (any_of HT_.out (by kernel_rfl)) (fun _ _ _ h => h) (Or.inl ⟨by rfl, ?_⟩) ?_ ?_
          rotate_left
          ·intro w'
           go_simp
           with_reducible rfl
          rotate_left
          ·simp only [Act.put, la_, lz_, ls_, i64_w, i32_w]
           rfl
          refine pure_ (i := 12) (N := some 65) (v := ?_) (a' := ?_) #[T_, T_, T_, T_, T_, T_, T_, T_, T_, T_, T_, T_, T_, F_, F_, F_] rfl rfl (any_of HT_.out (by kernel_rfl)) (fun _ _ _ h => h) (Or.inl ⟨by rfl, ?_⟩) ?_ ?_
          rotate_left
          ·intro w'
           go_simp
           with_reducible rfl
          rotate_left
          ·simp only [Act.put, la_, lz_, ls_, i64_w, i32_w]
           rfl
          refine pure_ (i := 13) (N := some 66) (v := ?_) (a' := ?_) #[T_, T_, T_, T_, T_, T_, T_, T_, T_, T_, T_, T_, T_, T_, F_, F_] rfl rfl (any_of HT_.out (by kernel_rfl)) (fun _ _ _ h => h) (Or.inl ⟨by rfl, ?_⟩) ?_ ?_
          rotate_left
          ·intro w'
           go_simp
           with_reducible rfl
          rotate_left
          ·simp only [Act.put, la_, lz_, ls_, i64_w, i32_w]
           rfl
          refine pure_ (i := 14) (N := some 67) (v := ?_) (a' := ?_) #[T_, T_, T_, T_, T_, T_, T_, T_, T_, T_, T_, T_, T_, T_, T_, F_] rfl rfl (any_of HT_.out (by kernel_rfl)) (fun _ _ _ h => h) (Or.inl ⟨by rfl, ?_⟩) ?_ ?_
          rotate_left
          ·intro w'
           go_simp
           with_reducible rfl
          rotate_left
          ·simp only [Act.put, la_, lz_, ls_, i64_w, i32_w]
           rfl
          refine last_ (i := 15) (N := none) #[T_, T_, T_, T_, T_, T_, T_, T_, T_, T_, T_, T_, T_, T_, T_, T_] rfl rfl (one_of HT_.out (by kernel_rfl)) (by decide) (fun K hK => ?_)
          have hs40 : w38.cell? ⟨gb220, 1, none⟩ = some (.slice Ao37 x221001_2.length co37) := (blk_cell BK220.out 1).trans rfl
          have hfs40 := blk_frozen BK220.out 1
          refine skip_ (w1 := ?_) (by rfl) rfl ?_ ?_
          rotate_left
          ·go_simp
           rfl
          refine hK.out _ _ ?_
          clear hK K
          refine done_ (done_of HT_.out (by kernel_rfl)) ?_
          try go_wp2
          go_roundg kj16
          case measure => have := HK1.out; have := HK2.out; have := HJ11.out; have := HJ16.out; omega
          case rel => exact ⟨(wrap64 (x9_2 + 1)), (t234), (t235), (.slice Ao39 t235.length co39), (by first | rfl | (simp; done) | (simp [*]; done)), H', ⟨by have := HK1.out; have := HK2.out; have := HJ11.out; have := HJ16.out; omega⟩, ⟨by (with_reducible repeat (first | apply Kd.N_alloc | apply Kd.N_drewN | apply Kd.N_drew)); exact Kd.N_mono (Kd.N_far (p := ⟨gb220, 1, none⟩) (Kd.N_mono HO_6.out (fun k_ hk => (⟨hk, hk.1.2.2.1⟩ : _ ∧ k_ ≠ gb220))) (fun _ hk => hk.2) (.slice Ao39 t235.length co39)) (fun _ hk => by first | exact ⟨hk.1.1.1, ⟨hk.1.2, ⟨hk.1.1.2.2.1, hk.1.1.2.2.2⟩⟩⟩ | exact hk.1 | exact hk | exact ⟨hk.1, hk.2⟩ | exact ⟨.inr hk.1, hk.2⟩ | simp only [hk, ne_eq, not_false_eq_true, and_self])⟩, ⟨by (with_reducible repeat (first | apply Kd.R_alloc | apply Kd.R_drewN | apply Kd.R_drew)); exact Kd.R_mono (Kd.R_far (p := ⟨gb220, 1, none⟩) (Kd.R_types HO237.out BK220.out (by decide)) (fun _ hk => hk.2) (.slice Ao39 t235.length co39)) (fun _ hk => hk.1.1.1)⟩, ⟨by (with_reducible repeat (first | refine bn_ ?_ _ | refine bw_ ?_ | refine ba_ ?_ _)); refine blk_put (cs := #[.int .i64 (wrap64 (10 + x7_1)), .slice Ao37 x221001_2.length co37]) ?_ 1 _ rfl; (with_reducible repeat (first | refine bn_ ?_ _ | refine bw_ ?_ | refine ba_ ?_ _)); exact BK220.out⟩, ⟨by repeat (first | (with_reducible first | exact HI0.out | apply IsS109.alloc | apply IsS109.drewN | apply IsS109.drew | apply IsS109.set_1 | refine IsS109.far ?_ NB0_220.out _) | exact HI0.out)⟩, ⟨by repeat (first | (with_reducible first | exact HK.out | apply KeepBut.set_ | apply keep_drewN | apply keep_drew | apply keep_alloc | refine keep_far ?_ GW220.out _) | exact HK.out)⟩, ⟨by repeat (first | (with_reducible first | exact HB.out | apply na_ | apply nn_ | apply nw_ | refine bs_ ?_ (IsS109.ge HI0.out) | refine bs_ ?_ GE220.out) | exact HB.out)⟩⟩
         rw [if_pos c20] at H
         have c20b0 : (t223 == 0) = true := beq_iff_eq.mpr c20
         have c20b1 : (t223 != 0) = false := bne_eq_false_iff_eq.mpr c20
         clear c20
         replace H := Option.bind_eq_some_iff.mp H
         obtain ⟨⟨t225, t226⟩, A210, H⟩ := H
         replace H : ((spec_l20Rd_pick.f kj16 s0_0 t226 4).bind fun bt227 => ((spec_RoutePut.f kj16 x221001_2 (wrap64 (10 + x9_2)) 16 (wrap64 (10 + t225)) (wrap64 (3 + (wrap64 (bt227.1 * 4))))).bind fun bt229 => (spec_l20Net.l1 kj16 a1 (wrap64 (1 + t209)) x6_1 x7_1 (wrap64 (x9_2 + 1)) s0_0 bt227.2 (wrap64 (10 + x7_1)) bt229.1))) = some (r1, r2) := H
         have A21 := mk_ A210
         clear A210
         replace H := Option.bind_eq_some_iff.mp H
         obtain ⟨⟨t227, t228⟩, A220, H⟩ := H
         replace H : ((spec_RoutePut.f kj16 x221001_2 (wrap64 (10 + x9_2)) 16 (wrap64 (10 + t225)) (wrap64 (3 + (wrap64 (t227 * 4))))).bind fun bt229 => (spec_l20Net.l1 kj16 a1 (wrap64 (1 + t209)) x6_1 x7_1 (wrap64 (x9_2 + 1)) s0_0 t228 (wrap64 (10 + x7_1)) bt229.1)) = some (r1, r2) := H
         have A22 := mk_ A220
         clear A220
         replace H := Option.bind_eq_some_iff.mp H
         obtain ⟨⟨t229, t232⟩, A230, H⟩ := H
         replace H : (spec_l20Net.l1 kj16 a1 (wrap64 (1 + t209)) x6_1 x7_1 (wrap64 (x9_2 + 1)) s0_0 t228 (wrap64 (10 + x7_1)) t229) = some (r1, r2) := H
         have A23 := mk_ A230
         clear A230
         have H' := mk_ H
         clear H
         try go_wp2_with (first | ((with_reducible refine gate_callee (f := 62) rfl ?_); have hA_ := A19.out; refine goesL_ (some 46) rfl rfl Try.func62 (by kernel_rfl) rfl #[.pointer (some ⟨g, 0, none⟩), .int .i64 20] rfl (by (try simp only [lm_, lo_, ln_]); first | done | rfl | (simp only [List.length_drop, List.length_take]; rfl)) ?_; (with_reducible refine (spec_l20Rd_pick.calls kj16 g s0_0 x1001_11 20 t223 t224 w0 _ ?side1 ?side2 A19.out).mono ?_); (case side1 => repeat (first | (with_reducible first | exact HI0.out | apply IsS109.alloc | apply IsS109.drewN | apply IsS109.drew | apply IsS109.set_1 | refine IsS109.far ?_ NB0_220.out _) | exact HI0.out)); (case side2 => repeat (first | (with_reducible first | exact HB.out | apply na_ | apply nn_ | apply nw_ | refine bs_ ?_ (IsS109.ge HI0.out) | refine bs_ ?_ GE220.out) | exact HB.out)); rintro e w24 ⟨rfl, hi, hb, hk⟩; refine ⟨_, rfl, ?_⟩; have n0_ := mk_ (Kd.N_mono (Kd.N_keep (Kd.N_mono (ok := fun k_ => (((w.heap.size ≤ k_)) ∧ (some k_ ≠ (u221001 : Value).ownBlock ∧ (k_ ≠ gb220 ∧ k_ ≠ g)))) (by (with_reducible repeat (first | apply Kd.N_alloc | apply Kd.N_drewN | apply Kd.N_drew)); exact HO_6.out) (fun k_ hk_ => (⟨hk_, hk_.2.2.2⟩ : _ ∧ k_ ≠ g))) hk (fun _ h => h.2)) (fun _ h => h.1)); have n1_ := mk_ (Kd.R_mono (Kd.R_keep (IsS109.apart (show IsS109 w0 _ g s0_0 x1001_11 from by repeat (first | (with_reducible first | exact HI0.out | apply IsS109.alloc | apply IsS109.drewN | apply IsS109.drew | apply IsS109.set_1 | refine IsS109.far ?_ NB0_220.out _) | exact HI0.out)) (Kd.ur_ HO_221001.out) (by decide)) hk (fun _ h => h.2)) (fun _ h => h.1)); have n2_ := mk_ (KeepBut.blk hk (g' := gb220) (o := .cells #[.int .i64 (wrap64 (10 + x7_1)), u221001] 79 (0, 0)) (u_ BK220.out) NB220_0.out (by simp)); have n3_ := mk_ (KeepBut.trans (by repeat (first | (with_reducible first | exact HK.out | apply KeepBut.set_ | apply keep_drewN | apply keep_drew | apply keep_alloc | refine keep_far ?_ GW220.out _) | exact HK.out)) hk (.inl rfl)); have n4_ := mk_ (hb); have n5_ := mk_ (hi); clear HO_6; clear HO_221001; clear BK220; clear HK; clear HB; clear HI0; have HO_6 := n0_; have HO_221001 := n1_; have BK220 := n2_; have HK := n3_; have HB := n4_; have HI0 := n5_; clear n0_ n1_ n2_ n3_ n4_ n5_; (try clear hb); (try clear hb2); (try clear hk); (try clear hi); clear hA_ A19) | ((with_reducible refine gate_callee (f := 62) rfl ?_); have hA_ := A21.out; refine goesL_ (some 51) rfl rfl Try.func62 (by kernel_rfl) rfl #[.pointer (some ⟨g, 0, none⟩), .int .i64 (wrap64 ((wrap64 (1 + t209)) + 1))] rfl (by (try simp only [lm_, lo_, ln_]); first | done | rfl | (simp only [List.length_drop, List.length_take]; rfl)) ?_; (with_reducible refine (spec_l20Rd_pick.calls kj16 g s0_0 t224 (wrap64 ((wrap64 (1 + t209)) + 1)) t225 t226 w0 _ ?side1 ?side2 A21.out).mono ?_); (case side1 => repeat (first | (with_reducible first | exact HI0.out | apply IsS109.alloc | apply IsS109.drewN | apply IsS109.drew | apply IsS109.set_1 | refine IsS109.far ?_ NB0_220.out _) | exact HI0.out)); (case side2 => repeat (first | (with_reducible first | exact HB.out | apply na_ | apply nn_ | apply nw_ | refine bs_ ?_ (IsS109.ge HI0.out) | refine bs_ ?_ GE220.out) | exact HB.out)); rintro e w25 ⟨rfl, hi, hb, hk⟩; refine ⟨_, rfl, ?_⟩; have n0_ := mk_ (Kd.N_mono (Kd.N_keep (Kd.N_mono (ok := fun k_ => (((w.heap.size ≤ k_)) ∧ (some k_ ≠ (u221001 : Value).ownBlock ∧ (k_ ≠ gb220 ∧ k_ ≠ g)))) (by (with_reducible repeat (first | apply Kd.N_alloc | apply Kd.N_drewN | apply Kd.N_drew)); exact HO_6.out) (fun k_ hk_ => (⟨hk_, hk_.2.2.2⟩ : _ ∧ k_ ≠ g))) hk (fun _ h => h.2)) (fun _ h => h.1)); have n1_ := mk_ (Kd.R_mono (Kd.R_keep (IsS109.apart (show IsS109 w0 _ g s0_0 t224 from by repeat (first | (with_reducible first | exact HI0.out | apply IsS109.alloc | apply IsS109.drewN | apply IsS109.drew | apply IsS109.set_1 | refine IsS109.far ?_ NB0_220.out _) | exact HI0.out)) (Kd.ur_ HO_221001.out) (by decide)) hk (fun _ h => h.2)) (fun _ h => h.1)); have n2_ := mk_ (KeepBut.blk hk (g' := gb220) (o := .cells #[.int .i64 (wrap64 (10 + x7_1)), u221001] 79 (0, 0)) (u_ BK220.out) NB220_0.out (by simp)); have n3_ := mk_ (KeepBut.trans (by repeat (first | (with_reducible first | exact HK.out | apply KeepBut.set_ | apply keep_drewN | apply keep_drew | apply keep_alloc | refine keep_far ?_ GW220.out _) | exact HK.out)) hk (.inl rfl)); have n4_ := mk_ (hb); have n5_ := mk_ (hi); clear HO_6; clear HO_221001; clear BK220; clear HK; clear HB; clear HI0; have HO_6 := n0_; have HO_221001 := n1_; have BK220 := n2_; have HK := n3_; have HB := n4_; have HI0 := n5_; clear n0_ n1_ n2_ n3_ n4_ n5_; (try clear hb); (try clear hb2); (try clear hk); (try clear hi); clear hA_ A21))
         have n0_ := mk_ (Kd.N_drew HO_6.out)
         have n1_ := mk_ (Kd.R_drew HO_221001.out)
         have n2_ := mk_ (blk_drew BK220.out)
         have n3_ := mk_ (IsS109.drew HI0.out)
         have n4_ := mk_ (keep_drew HK.out)
         have n5_ := mk_ (below_drew1 HB.out)
         clear HO_6
         clear HO_221001
         clear BK220
         clear HI0
         clear HK
         clear HB
         have HO_6 := n0_
         have HO_221001 := n1_
         have BK220 := n2_
         have HI0 := n3_
         have HK := n4_
         have HB := n5_
         clear n0_ n1_ n2_ n3_ n4_ n5_
         refine start_ (n := 16) (S := fun w' => w'.cell? ⟨gb220, 0, none⟩ = some (.int .i64 (wrap64 (10 + x7_1))) ∧ w'.cell? ⟨gb220, 1, none⟩ = some (u221001)) (ds := [15]) #[F_, F_, F_, F_, F_, F_, F_, F_, F_, F_, F_, F_, F_, F_, F_, F_] (by kernel_rfl) rfl rfl ⟨(blk_cell BK220.out 0).trans rfl, (blk_cell BK220.out 1).trans rfl⟩ (fun hHeld => ?_); refine with_tabW spec_l20Net.tab16 spec_l20Net.bits16 (fun HT_ HW_ => ?_)
         generalize w25.drew = w26 at HO_6 HO_221001 BK220 HI0 HK HB hHeld ⊢
         refine pure_ (i := 0) (N := some 54) (v := ?_) (a' := ?_) #[T_, F_, F_, F_, F_, F_, F_, F_, F_, F_, F_, F_, F_, F_, F_, F_] rfl rfl (any_of HT_.out (by kernel_rfl)) (fun _ _ _ h => h) (Or.inl ⟨by rfl, ?_⟩) ?_ ?_
         rotate_left
         ·intro w'
          go_simp
          with_reducible rfl
         rotate_left
         ·simp only [Act.put, la_, lz_, ls_, i64_w, i32_w]
          rfl
         refine pure_ (i := 2) (N := some 56) (v := ?_) (a' := ?_) #[T_, F_, T_, F_, F_, F_, F_, F_, F_, F_, F_, F_, F_, F_, F_, F_] rfl rfl (any_of HT_.out (by kernel_rfl)) (fun _ _ _ h => h) (Or.inl ⟨by rfl, ?_⟩) ?_ ?_
         rotate_left
         ·intro w'
          go_simp
          with_reducible rfl
         rotate_left
         ·simp only [Act.put, la_, lz_, ls_, i64_w, i32_w]
          rfl
         refine pure_ (i := 3) (N := some 57) (v := ?_) (a' := ?_) #[T_, F_, T_, T_, F_, F_, F_, F_, F_, F_, F_, F_, F_, F_, F_, F_] rfl rfl (any_of HT_.out (by kernel_rfl)) (fun _ _ _ h => h) (Or.inl ⟨by rfl, ?_⟩) ?_ ?_
         rotate_left
         ·intro w'
          go_simp
          with_reducible rfl
         rotate_left
         ·simp only [Act.put, la_, lz_, ls_, i64_w, i32_w]
          rfl
         refine pure_ (i := 4) (N := some 58) (v := ?_) (a' := ?_) #[T_, F_, T_, T_, T_, F_, F_, F_, F_, F_, F_, F_, F_, F_, F_, F_] rfl rfl (any_of HT_.out (by kernel_rfl)) (fun _ _ _ h => h) (Or.inl ⟨by rfl, ?_⟩) ?_ ?_
         rotate_left
         ·intro w'
          go_simp
          with_reducible rfl
         rotate_left
         ·simp only [Act.put, la_, lz_, ls_, i64_w, i32_w]
          rfl
         refine pure_ (i := 5) (N := some 59) (v := ?_) (a' := ?_) #[T_, F_, T_, T_, T_, T_, F_, F_, F_, F_, F_, F_, F_, F_, F_, F_] rfl rfl (any_of HT_.out (by kernel_rfl)) (fun _ _ _ h => h) (Or.inl ⟨by rfl, ?_⟩) ?_ ?_
         rotate_left
         ·intro w'
          go_simp
          with_reducible rfl
         rotate_left
         ·simp only [Act.put, la_, lz_, ls_, i64_w, i32_w]
          rfl
         refine take_ (i := 1) (N := some 55) (v := ?_) (a' := ?_) #[T_, T_, T_, T_, T_, T_, F_, F_, F_, F_, F_, F_, F_, F_, F_, F_] rfl rfl (take_ofW HT_.out HW_.out (by kernel_rfl)) (fun _ _ _ h => h) (Or.inl ⟨by rfl, ?_⟩) hHeld ?_ ?_
         rotate_left
         ·rintro w' ⟨s0, s1⟩
          go_simp
          with_reducible rfl
         rotate_left
         ·simp only [Act.put, la_, lz_, ls_, i64_w, i32_w]
          rfl
         refine one_ (i := 6) (N := some 60) #[T_, T_, T_, T_, T_, T_, T_, F_, F_, F_, F_, F_, F_, F_, F_, F_] rfl rfl (one_of HT_.out (by kernel_rfl)) (by decide) (fun K hK => ?_)
         refine goes_ Try.func62 (by kernel_rfl) rfl #[.pointer (some ⟨g, 0, none⟩), .int .i64 4] (by rfl) rfl rfl (by (try simp only [lm_, lo_, ln_]); first | done | rfl | (simp only [List.length_drop, List.length_take]; rfl)) ?_
         with_reducible refine (spec_l20Rd_pick.calls kj16 g s0_0 t226 4 t227 t228 w0 _ ?side1 ?side2 A22.out).mono ?_
         (case side1 => repeat (first | (with_reducible first | exact HI0.out | apply IsS109.alloc | apply IsS109.drewN | apply IsS109.drew | apply IsS109.set_1 | refine IsS109.far ?_ NB0_220.out _) | exact HI0.out))
         (case side2 => repeat (first | (with_reducible first | exact HB.out | apply na_ | apply nn_ | apply nw_ | refine bs_ ?_ (IsS109.ge HI0.out) | refine bs_ ?_ GE220.out) | exact HB.out))
         rintro e w27 ⟨rfl, hi, hb, hk⟩
         refine ⟨_, rfl, ?_⟩
         have n0_ := mk_ (Kd.N_mono (Kd.N_keep (Kd.N_mono (ok := fun k_ => (((w.heap.size ≤ k_)) ∧ (some k_ ≠ (u221001 : Value).ownBlock ∧ (k_ ≠ gb220 ∧ k_ ≠ g)))) (by (with_reducible repeat (first | apply Kd.N_alloc | apply Kd.N_drewN | apply Kd.N_drew)); exact HO_6.out) (fun k_ hk_ => (⟨hk_, hk_.2.2.2⟩ : _ ∧ k_ ≠ g))) hk (fun _ h => h.2)) (fun _ h => h.1))
         have n1_ := mk_ (Kd.R_mono (Kd.R_keep (IsS109.apart (show IsS109 w0 _ g s0_0 t226 from by repeat (first | (with_reducible first | exact HI0.out | apply IsS109.alloc | apply IsS109.drewN | apply IsS109.drew | apply IsS109.set_1 | refine IsS109.far ?_ NB0_220.out _) | exact HI0.out)) (Kd.ur_ HO_221001.out) (by decide)) hk (fun _ h => h.2)) (fun _ h => h.1))
         have n2_ := mk_ (KeepBut.blk hk (g' := gb220) (o := .cells #[.int .i64 (wrap64 (10 + x7_1)), u221001] 79 (0, 0)) (u_ BK220.out) NB220_0.out (by simp))
         have n3_ := mk_ (KeepBut.trans (by repeat (first | (with_reducible first | exact HK.out | apply KeepBut.set_ | apply keep_drewN | apply keep_drew | apply keep_alloc | refine keep_far ?_ GW220.out _) | exact HK.out)) hk (.inl rfl))
         have n4_ := mk_ (hb)
         have n5_ := mk_ (hi)
         clear HO_6
         clear HO_221001
         clear BK220
         clear HK
         clear HB
         clear HI0
         have HO_6 := n0_
         have HO_221001 := n1_
         have BK220 := n2_
         have HK := n3_
         have HB := n4_
         have HI0 := n5_
         clear n0_ n1_ n2_ n3_ n4_ n5_
         (try clear hb)
         (try clear hb2)
         (try clear hk)
         (try clear hi)
         obtain ⟨Ao28, co28, eo28⟩ := Kd.R_slice HO_221001.out
         (first | subst eo28 | (injection eo28 with f1_ f2_ f3_; have f4_ := f1_.symm; have f5_ := f3_.symm; clear f1_ f2_ f3_; subst f4_; subst f5_))
         refine hK.out _ _ ⟨(blk_cell BK220.out 0).trans rfl, (blk_cell BK220.out 1).trans rfl⟩ (fun hHeld => ?_)
         clear hK K
         refine norm_ (a' := ?_) ?_ ?_
         rotate_left
         ·show Act.put _ (some 60) _ = _
          simp only [Act.put, la_, lz_, ls_, i64_w, i32_w]
          rfl
         refine pure_ (i := 7) (N := some 61) (v := ?_) (a' := ?_) #[T_, T_, T_, T_, T_, T_, T_, T_, F_, F_, F_, F_, F_, F_, F_, F_] rfl rfl (any_of HT_.out (by kernel_rfl)) (fun _ _ _ h => h) (Or.inl ⟨by rfl, ?_⟩) ?_ ?_
         rotate_left
         ·intro w'
          go_simp
          with_reducible rfl
         rotate_left
         ·simp only [Act.put, la_, lz_, ls_, i64_w, i32_w]
          rfl
         refine pure_ (i := 8) (N := some 62) (v := ?_) (a' := ?_) #[T_, T_, T_, T_, T_, T_, T_, T_, T_, F_, F_, F_, F_, F_, F_, F_] rfl rfl (any_of HT_.out (by kernel_rfl)) (fun _ _ _ h => h) (Or.inl ⟨by rfl, ?_⟩) ?_ ?_
         rotate_left
         ·intro w'
          go_simp
          with_reducible rfl
         rotate_left
         ·simp only [Act.put, la_, lz_, ls_, i64_w, i32_w]
          rfl
         refine pure_ (i := 9) (N := some 63) (v := ?_) (a' := ?_) #[T_, T_, T_, T_, T_, T_, T_, T_, T_, T_, F_, F_, F_, F_, F_, F_] rfl rfl (any_of HT_.out (by kernel_rfl)) (fun _ _ _ h => h) (Or.inl ⟨by rfl, ?_⟩) ?_ ?_
         rotate_left
         ·intro w'
          go_simp
          with_reducible rfl
         rotate_left
         ·simp only [Act.put, la_, lz_, ls_, i64_w, i32_w]
          rfl
         refine one_ (i := 10) (N := some 64) #[T_, T_, T_, T_, T_, T_, T_, T_, T_, T_, T_, F_, F_, F_, F_, F_] rfl rfl (one_of HT_.out (by kernel_rfl)) (by decide) (fun K hK => ?_)
         refine goes_ Try.func76 (by kernel_rfl) rfl #[.slice Ao28 x221001_2.length co28, .agg #[.int .i64 (wrap64 (10 + x9_2)), .int .i64 16, .int .i64 (wrap64 (10 + t225)), .int .i64 (wrap64 (3 + (wrap64 (t227 * 4))))]] (by rfl) rfl rfl (by (try simp only [lm_, lo_, ln_]); first | done | rfl | (simp only [List.length_drop, List.length_take]; rfl)) ?_
         with_reducible refine (spec_RoutePut.calls kj16 _ _ x221001_2 (wrap64 (10 + x9_2)) 16 (wrap64 (10 + t225)) (wrap64 (3 + (wrap64 (t227 * 4)))) t229 t232 _ ?side1 ?side2 A23.out).mono ?_
         (case side1 => repeat (first | exact (Kd.R_reads' HO_221001.out).2.2 | (with_reducible refine Kd.C_alloc ?_ _) | (with_reducible refine Kd.C_drewN ?_ _) | (with_reducible refine Kd.C_drew ?_)))
         (case side2 => exact (Kd.R_reads' HO_221001.out).2.1)
         rintro e w29 ⟨v230, rfl, ho0, hb⟩
         refine ⟨_, rfl, ?_⟩
         have n0_ := mk_ (Kd.N_elder' (by (with_reducible repeat (first | apply Kd.N_alloc | apply Kd.N_drewN | apply Kd.N_drew)); exact HO_6.out) (Kd.R_base ho0) hb)
         have n1_ := mk_ (Kd.R_elder' (Kd.ur_ HO_221001.out) (Kd.R_base ho0) hb)
         have n2_ := mk_ (Kd.R_lower (Kd.R_new' (Kd.R_newM (M := fun k_ => (w.heap.size ≤ k_)) ho0 (keep_size (w := w) (g := g) (row := none) (by repeat (first | (with_reducible first | exact HK.out | apply KeepBut.set_ | apply keep_drewN | apply keep_drew | apply keep_alloc | refine keep_far ?_ GW220.out _) | exact HK.out))) (fun k_ h_ => h_)) (Kd.R_lt (Kd.ur_ HO_221001.out))) (keep_size (w := w) (g := g) (row := none) (by repeat (first | (with_reducible first | exact HK.out | apply KeepBut.set_ | apply keep_drewN | apply keep_drew | apply keep_alloc | refine keep_far ?_ GW220.out _) | exact HK.out))))
         have n3_ := mk_ (blk_below (u_ BK220.out) hb)
         have n4_ := mk_ (IsS109.below (by repeat (first | (with_reducible first | exact HI0.out | apply IsS109.alloc | apply IsS109.drewN | apply IsS109.drew | apply IsS109.set_1 | refine IsS109.far ?_ NB0_220.out _) | exact HI0.out)) hb)
         have n5_ := mk_ (KeepBut.trans (by repeat (first | (with_reducible first | exact HK.out | apply KeepBut.set_ | apply keep_drewN | apply keep_drew | apply keep_alloc | refine keep_far ?_ GW220.out _) | exact HK.out)) (KeepBut.of_below hb g none) (.inl rfl))
         have n6_ := mk_ (below_step (by repeat (first | (with_reducible first | exact HB.out | apply na_ | apply nn_ | apply nw_ | refine bs_ ?_ (IsS109.ge HI0.out) | refine bs_ ?_ GE220.out) | exact HB.out)) hb)
         clear HO_6
         clear HO_221001
         clear BK220
         clear HI0
         clear HK
         clear HB
         have HO_6 := n0_
         have HO_221001 := n1_
         have HO231 := n2_
         have BK220 := n3_
         have HI0 := n4_
         have HK := n5_
         have HB := n6_
         clear n0_ n1_ n2_ n3_ n4_ n5_ n6_
         (try clear hb)
         (try clear hb2)
         (try clear hk)
         (try clear hi)
         (try clear ho0)
         obtain ⟨Ao30, co30, eo30⟩ := Kd.R_slice HO231.out
         (first | subst eo30 | (injection eo30 with f1_ f2_ f3_; have f4_ := f1_.symm; have f5_ := f3_.symm; clear f1_ f2_ f3_; subst f4_; subst f5_))
         refine hK.out _ _ ⟨(blk_cell BK220.out 0).trans rfl, (blk_cell BK220.out 1).trans rfl⟩ (fun hHeld => ?_)
         clear hK K
         refine norm_ (a' := ?_) ?_ ?_
         rotate_left
         ·show Act.put _ (some 64) _ = _
          simp only [Act.put, la_, lz_, ls_, i64_w, i32_w]
          rfl
         refine pure_ (i := 11) (N := some 53) (v := ?_) (a' := ?_) #[T_, T_, T_, T_, T_, T_, T_, T_, T_, T_, T_, T_, F_, F_, F_, F_] rfl rfl (any_of HT_.out (by kernel_rfl)) (fun _ _ _ h => h) (Or.inl ⟨by rfl, ?_⟩) ?_ ?_
         rotate_left
         ·intro w'
          go_simp
          with_reducible rfl
         rotate_left
         ·simp only [Act.put, la_, lz_, ls_, i64_w, i32_w]
          rfl
         refine pure_ (i := 12) (N := some 65) (v := ?_) (a' := ?_) #[T_, T_, T_, T_, T_, T_, T_, T_, T_, T_, T_, T_, T_, F_, F_, F_] rfl rfl (any_of HT_.out (by kernel_rfl)) (fun _ _ _ h => h) (Or.inl ⟨by rfl, ?_⟩) ?_ ?_
         rotate_left
         ·intro w'
          go_simp
          with_reducible rfl
         rotate_left
         ·simp only [Act.put, la_, lz_, ls_, i64_w, i32_w]
          rfl
         refine pure_ (i := 13) (N := some 66) (v := ?_) (a' := ?_) #[T_, T_, T_, T_, T_, T_, T_, T_, T_, T_, T_, T_, T_, T_, F_, F_] rfl rfl (any_of HT_.out (by kernel_rfl)) (fun _ _ _ h => h) (Or.inl ⟨by rfl, ?_⟩) ?_ ?_
         rotate_left
         ·intro w'
          go_simp
          with_reducible rfl
         rotate_left
         ·simp only [Act.put, la_, lz_, ls_, i64_w, i32_w]
          rfl
         refine pure_ (i := 14) (N := some 67) (v := ?_) (a' := ?_) #[T_, T_, T_, T_, T_, T_, T_, T_, T_, T_, T_, T_, T_, T_, T_, F_] rfl rfl (any_of HT_.out (by kernel_rfl)) (fun _ _ _ h => h) (Or.inl ⟨by rfl, ?_⟩) ?_ ?_
         rotate_left
         ·intro w'
          go_simp
          with_reducible rfl
         rotate_left
         ·simp only [Act.put, la_, lz_, ls_, i64_w, i32_w]
          rfl
         refine last_ (i := 15) (N := none) #[T_, T_, T_, T_, T_, T_, T_, T_, T_, T_, T_, T_, T_, T_, T_, T_] rfl rfl (one_of HT_.out (by kernel_rfl)) (by decide) (fun K hK => ?_)
         have hs31 : w29.cell? ⟨gb220, 1, none⟩ = some (.slice Ao28 x221001_2.length co28) := (blk_cell BK220.out 1).trans rfl
         have hfs31 := blk_frozen BK220.out 1
         refine skip_ (w1 := ?_) (by rfl) rfl ?_ ?_
         rotate_left
         ·go_simp
          rfl
         refine hK.out _ _ ?_
         clear hK K
         refine done_ (done_of HT_.out (by kernel_rfl)) ?_
         try go_wp2
         go_roundg kj16
         case measure => have := HK1.out; have := HK2.out; have := HJ11.out; have := HJ16.out; omega
         case rel => exact ⟨(wrap64 (x9_2 + 1)), (t228), (t229), (.slice Ao30 t229.length co30), (by first | rfl | (simp; done) | (simp [*]; done)), H', ⟨by have := HK1.out; have := HK2.out; have := HJ11.out; have := HJ16.out; omega⟩, ⟨by (with_reducible repeat (first | apply Kd.N_alloc | apply Kd.N_drewN | apply Kd.N_drew)); exact Kd.N_mono (Kd.N_far (p := ⟨gb220, 1, none⟩) (Kd.N_mono HO_6.out (fun k_ hk => (⟨hk, hk.1.2.2.1⟩ : _ ∧ k_ ≠ gb220))) (fun _ hk => hk.2) (.slice Ao30 t229.length co30)) (fun _ hk => by first | exact ⟨hk.1.1.1, ⟨hk.1.2, ⟨hk.1.1.2.2.1, hk.1.1.2.2.2⟩⟩⟩ | exact hk.1 | exact hk | exact ⟨hk.1, hk.2⟩ | exact ⟨.inr hk.1, hk.2⟩ | simp only [hk, ne_eq, not_false_eq_true, and_self])⟩, ⟨by (with_reducible repeat (first | apply Kd.R_alloc | apply Kd.R_drewN | apply Kd.R_drew)); exact Kd.R_mono (Kd.R_far (p := ⟨gb220, 1, none⟩) (Kd.R_types HO231.out BK220.out (by decide)) (fun _ hk => hk.2) (.slice Ao30 t229.length co30)) (fun _ hk => hk.1.1.1)⟩, ⟨by (with_reducible repeat (first | refine bn_ ?_ _ | refine bw_ ?_ | refine ba_ ?_ _)); refine blk_put (cs := #[.int .i64 (wrap64 (10 + x7_1)), .slice Ao28 x221001_2.length co28]) ?_ 1 _ rfl; (with_reducible repeat (first | refine bn_ ?_ _ | refine bw_ ?_ | refine ba_ ?_ _)); exact BK220.out⟩, ⟨by repeat (first | (with_reducible first | exact HI0.out | apply IsS109.alloc | apply IsS109.drewN | apply IsS109.drew | apply IsS109.set_1 | refine IsS109.far ?_ NB0_220.out _) | exact HI0.out)⟩, ⟨by repeat (first | (with_reducible first | exact HK.out | apply KeepBut.set_ | apply keep_drewN | apply keep_drew | apply keep_alloc | refine keep_far ?_ GW220.out _) | exact HK.out)⟩, ⟨by repeat (first | (with_reducible first | exact HB.out | apply na_ | apply nn_ | apply nw_ | refine bs_ ?_ (IsS109.ge HI0.out) | refine bs_ ?_ GE220.out) | exact HB.out)⟩⟩

end Go.Proofs.Ytfcocnhkimbpbac.MFnNetOk
