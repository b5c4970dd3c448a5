/- Functions that the law FnPathRoom reaches, each with the proof that the machine's call comes to just its answer; no conditions but those that each theorem states. Printed by a program of this session over the kit's print. -/
import Derived.Test.YtkkibccnpkbbjabMFnPathRoomx0
import Derived.Test.YtkkibccnpkbbjabMFnPathRoomx1
import Derived.Test.YtkkibccnpkbbjabMFnPathRoomx2
import Derived.Test.YtkkibccnpkbbjabMFnPathRoomx3
namespace Go.Proofs.Ytkkibccnpkbbjab.MFnPathRoom
open Go.RowKit Go.Proofs.YtkkibccnpkbbjabV.PrintWords Go.Proofs.YtkkibccnpkbbjabV.PrintLast Go.Proofs.YtkkibccnpkbbjabV.PrintMore
attribute [local go_sem] max2_int min2_int max_two min_two max_three min_three max_four min_four   -- for this text's walks alone
set_option linter.unusedVariables false
set_option linter.unusedSimpArgs false

/-! ### spec_l20Net: function 45 -/
mutual
def spec_l20Net.l0 : Nat → Int → Int → List (S34) → Int → List Int → Int → Option ((List (S34)) × Int)
 | 0, _, _, _, _, _, _ => none
 | k + 1, x1, x5, x6, x7, x1000, x1001 => if x7 < x5 then (spec_l20Net.l1 k x1 x5 x6 x7 0 x1000 x1001 (wrap64 (10 + x7)) ([] : List (S29))) else ((spec_l20Rd_odd.f k x1000 x1001 x1).bind fun bt163 => (if bt163.1 = true then (if 0 < (x6.length : Int) then (if x6.length < 4398046511104 then (some ((x6 ++ [(⟨(rd_T34 x6 0).f0, (rd_T34 x6 0).f1⟩ : S34)]), bt163.2)) else (none)) else (none)) else (some (x6, bt163.2))))
def spec_l20Net.l1 : Nat → Int → Int → List (S34) → Int → Int → List Int → Int → Int → List (S29) → Option ((List (S34)) × Int)
 | 0, _, _, _, _, _, _, _, _, _ => none
 | k + 1, x1, x5, x6, x7, x9, x1000, x1001, x170000, x170001 => if x9 < x5 then (if x9 = x7 then (spec_l20Net.j2 k x1 x5 x6 x7 x9 false x1000 x1001 x170000 x170001) else ((spec_l20Rd_pick.f k x1000 x1001 12).bind fun bt170 => (spec_l20Net.j2 k x1 x5 x6 x7 x9 (decide (bt170.1 > 0)) x1000 bt170.2 x170000 x170001))) else ((spec_l20Rd_pick.f k x1000 x1001 4).bind fun bt188 => (if bt188.1 = 0 then ((spec_l20Rd_pick.f k x1000 bt188.2 x5).bind fun bt190 => ((spec_RoutePut.f k x170001 0 0 (wrap64 (10 + bt190.1)) 8).bind fun bt192 => (if x6.length < 4398046511104 then (spec_l20Net.l0 k x1 x5 (x6 ++ [(⟨x170000, bt192.1⟩ : S34)]) (wrap64 (x7 + 1)) x1000 bt190.2) else (none)))) else (if x6.length < 4398046511104 then (spec_l20Net.l0 k x1 x5 (x6 ++ [(⟨x170000, x170001⟩ : S34)]) (wrap64 (x7 + 1)) x1000 bt188.2) else (none))))
def spec_l20Net.j2 : Nat → Int → Int → List (S34) → Int → Int → Bool → List Int → Int → Int → List (S29) → Option ((List (S34)) × Int)
 | 0, _, _, _, _, _, _, _, _, _, _ => none
 | k + 1, x1, x5, x6, x7, x9, x35, x1000, x1001, x170000, x170001 => if x35 = true then (if x9 < x7 then (spec_l20Net.j3 k x1 x5 x6 x7 x9 (wrap64 ((wrap64 (10 + x7)) - 1)) x1000 x1001 x170000 x170001) else (spec_l20Net.j3 k x1 x5 x6 x7 x9 (wrap64 ((wrap64 (10 + x7)) + 1)) x1000 x1001 x170000 x170001)) else (spec_l20Net.l1 k x1 x5 x6 x7 (wrap64 (x9 + 1)) x1000 x1001 x170000 x170001)
def spec_l20Net.j3 : Nat → Int → Int → List (S34) → Int → Int → Int → List Int → Int → Int → List (S29) → Option ((List (S34)) × Int)
 | 0, _, _, _, _, _, _, _, _, _, _ => none
 | k + 1, x1, x5, x6, x7, x9, x10, x1000, x1001, x170000, x170001 => (spec_l20Rd_pick.f k x1000 x1001 20).bind fun bt172 => (if bt172.1 = 0 then ((spec_l20Rd_pick.f k x1000 bt172.2 (wrap64 (x5 + 1))).bind fun bt174 => ((spec_l20Rd_pick.f k x1000 bt174.2 4).bind fun bt176 => ((spec_RoutePut.f k x170001 (wrap64 (10 + x9)) 16 (wrap64 (10 + bt174.1)) (wrap64 (3 + (wrap64 (bt176.1 * 4))))).bind fun bt178 => (spec_l20Net.l1 k x1 x5 x6 x7 (wrap64 (x9 + 1)) x1000 bt176.2 x170000 bt178.1)))) else ((spec_l20Rd_pick.f k x1000 bt172.2 4).bind fun bt182 => ((spec_RoutePut.f k x170001 (wrap64 (10 + x9)) 16 x10 (wrap64 (3 + (wrap64 (bt182.1 * 4))))).bind fun bt184 => (spec_l20Net.l1 k x1 x5 x6 x7 (wrap64 (x9 + 1)) x1000 bt182.2 x170000 bt184.1))))
end
def spec_l20Net.f (k : Nat) (s0_0 : List Int) (s0_1 : Int) (a1 : Int) : Option ((List (S34)) × Int) := (spec_l20Rd_pick.f k s0_0 s0_1 5).bind fun bt158 => (spec_l20Net.l0 k a1 (wrap64 (1 + bt158.1)) (([] : List (S34))) 0 s0_0 bt158.2)
theorem spec_l20Net.mono_l : ∀ k, (∀ y0 y1 y2 y3 y4 y5, LeO (spec_l20Net.l0 k y0 y1 y2 y3 y4 y5) (spec_l20Net.l0 (k + 1) y0 y1 y2 y3 y4 y5)) ∧ (∀ y0 y1 y2 y3 y4 y5 y6 y7 y8, LeO (spec_l20Net.l1 k y0 y1 y2 y3 y4 y5 y6 y7 y8) (spec_l20Net.l1 (k + 1) y0 y1 y2 y3 y4 y5 y6 y7 y8)) ∧ (∀ y0 y1 y2 y3 y4 y5 y6 y7 y8 y9, LeO (spec_l20Net.j2 k y0 y1 y2 y3 y4 y5 y6 y7 y8 y9) (spec_l20Net.j2 (k + 1) y0 y1 y2 y3 y4 y5 y6 y7 y8 y9)) ∧ (∀ y0 y1 y2 y3 y4 y5 y6 y7 y8 y9, LeO (spec_l20Net.j3 k y0 y1 y2 y3 y4 y5 y6 y7 y8 y9) (spec_l20Net.j3 (k + 1) y0 y1 y2 y3 y4 y5 y6 y7 y8 y9))
 | 0 => ⟨fun _ _ _ _ _ _ r h => by simp [spec_l20Net.l0] at h, fun _ _ _ _ _ _ _ _ _ r h => by simp [spec_l20Net.l1] at h, fun _ _ _ _ _ _ _ _ _ _ r h => by simp [spec_l20Net.j2] at h, fun _ _ _ _ _ _ _ _ _ _ r h => by simp [spec_l20Net.j3] at h⟩
 | k + 1 => by
  obtain ⟨ih0, ih1, ih2, ih3⟩ := spec_l20Net.mono_l k
  refine ⟨?_, ?_, ?_, ?_⟩
  ·intro y0 y1 y2 y3 y4 y5
   unfold spec_l20Net.l0
   repeat' first
   | (with_reducible exact ih0 _ _ _ _ _ _)
   | (with_reducible exact ih1 _ _ _ _ _ _ _ _ _)
   | (with_reducible exact ih2 _ _ _ _ _ _ _ _ _ _)
   | (with_reducible exact ih3 _ _ _ _ _ _ _ _ _ _)
   | (with_reducible exact spec_RoutePut.mono _ _ _ _ _ _)
   | (with_reducible exact spec_l20Rd_odd.mono _ _ _ _)
   | (with_reducible exact spec_l20Rd_pick.mono _ _ _ _)
   | (with_reducible exact LeO.refl _)
   | (with_reducible exact LeO.none _)
   | (with_reducible refine LeO.ite ?_ ?_)
   | (with_reducible refine LeO.bind ?_ (fun _ => ?_))
   | exact ih0 _ _ _ _ _ _
   | exact ih1 _ _ _ _ _ _ _ _ _
   | exact ih2 _ _ _ _ _ _ _ _ _ _
   | exact ih3 _ _ _ _ _ _ _ _ _ _
   | exact spec_RoutePut.mono _ _ _ _ _ _
   | exact spec_l20Rd_odd.mono _ _ _ _
   | exact spec_l20Rd_pick.mono _ _ _ _
   | exact LeO.none _
   | refine LeO.ite ?_ ?_
   | refine LeO.bind ?_ (fun _ => ?_)
  ·intro y0 y1 y2 y3 y4 y5 y6 y7 y8
   unfold spec_l20Net.l1
   repeat' first
   | (with_reducible exact ih0 _ _ _ _ _ _)
   | (with_reducible exact ih1 _ _ _ _ _ _ _ _ _)
   | (with_reducible exact ih2 _ _ _ _ _ _ _ _ _ _)
   | (with_reducible exact ih3 _ _ _ _ _ _ _ _ _ _)
   | (with_reducible exact spec_RoutePut.mono _ _ _ _ _ _)
   | (with_reducible exact spec_l20Rd_odd.mono _ _ _ _)
   | (with_reducible exact spec_l20Rd_pick.mono _ _ _ _)
   | (with_reducible exact LeO.refl _)
   | (with_reducible exact LeO.none _)
   | (with_reducible refine LeO.ite ?_ ?_)
   | (with_reducible refine LeO.bind ?_ (fun _ => ?_))
   | exact ih0 _ _ _ _ _ _
   | exact ih1 _ _ _ _ _ _ _ _ _
   | exact ih2 _ _ _ _ _ _ _ _ _ _
   | exact ih3 _ _ _ _ _ _ _ _ _ _
   | exact spec_RoutePut.mono _ _ _ _ _ _
   | exact spec_l20Rd_odd.mono _ _ _ _
   | exact spec_l20Rd_pick.mono _ _ _ _
   | exact LeO.none _
   | refine LeO.ite ?_ ?_
   | refine LeO.bind ?_ (fun _ => ?_)
  ·intro y0 y1 y2 y3 y4 y5 y6 y7 y8 y9
   unfold spec_l20Net.j2
   repeat' first
   | (with_reducible exact ih0 _ _ _ _ _ _)
   | (with_reducible exact ih1 _ _ _ _ _ _ _ _ _)
   | (with_reducible exact ih2 _ _ _ _ _ _ _ _ _ _)
   | (with_reducible exact ih3 _ _ _ _ _ _ _ _ _ _)
   | (with_reducible exact spec_RoutePut.mono _ _ _ _ _ _)
   | (with_reducible exact spec_l20Rd_odd.mono _ _ _ _)
   | (with_reducible exact spec_l20Rd_pick.mono _ _ _ _)
   | (with_reducible exact LeO.refl _)
   | (with_reducible exact LeO.none _)
   | (with_reducible refine LeO.ite ?_ ?_)
   | (with_reducible refine LeO.bind ?_ (fun _ => ?_))
   | exact ih0 _ _ _ _ _ _
   | exact ih1 _ _ _ _ _ _ _ _ _
   | exact ih2 _ _ _ _ _ _ _ _ _ _
   | exact ih3 _ _ _ _ _ _ _ _ _ _
   | exact spec_RoutePut.mono _ _ _ _ _ _
   | exact spec_l20Rd_odd.mono _ _ _ _
   | exact spec_l20Rd_pick.mono _ _ _ _
   | exact LeO.none _
   | refine LeO.ite ?_ ?_
   | refine LeO.bind ?_ (fun _ => ?_)
  ·intro y0 y1 y2 y3 y4 y5 y6 y7 y8 y9
   unfold spec_l20Net.j3
   repeat' first
   | (with_reducible exact ih0 _ _ _ _ _ _)
   | (with_reducible exact ih1 _ _ _ _ _ _ _ _ _)
   | (with_reducible exact ih2 _ _ _ _ _ _ _ _ _ _)
   | (with_reducible exact ih3 _ _ _ _ _ _ _ _ _ _)
   | (with_reducible exact spec_RoutePut.mono _ _ _ _ _ _)
   | (with_reducible exact spec_l20Rd_odd.mono _ _ _ _)
   | (with_reducible exact spec_l20Rd_pick.mono _ _ _ _)
   | (with_reducible exact LeO.refl _)
   | (with_reducible exact LeO.none _)
   | (with_reducible refine LeO.ite ?_ ?_)
   | (with_reducible refine LeO.bind ?_ (fun _ => ?_))
   | exact ih0 _ _ _ _ _ _
   | exact ih1 _ _ _ _ _ _ _ _ _
   | exact ih2 _ _ _ _ _ _ _ _ _ _
   | exact ih3 _ _ _ _ _ _ _ _ _ _
   | exact spec_RoutePut.mono _ _ _ _ _ _
   | exact spec_l20Rd_odd.mono _ _ _ _
   | exact spec_l20Rd_pick.mono _ _ _ _
   | exact LeO.none _
   | refine LeO.ite ?_ ?_
   | refine LeO.bind ?_ (fun _ => ?_)
theorem spec_l20Net.mono : ∀ a0 a1 a2 k, LeO (spec_l20Net.f k a0 a1 a2) (spec_l20Net.f (k + 1) a0 a1 a2) := by
 intro a0 a1 a2 k
 obtain ⟨ih0, ih1, ih2, ih3⟩ := spec_l20Net.mono_l k
 unfold spec_l20Net.f
 repeat' first
   | (with_reducible exact ih0 _ _ _ _ _ _)
   | (with_reducible exact ih1 _ _ _ _ _ _ _ _ _)
   | (with_reducible exact ih2 _ _ _ _ _ _ _ _ _ _)
   | (with_reducible exact ih3 _ _ _ _ _ _ _ _ _ _)
   | (with_reducible exact spec_RoutePut.mono _ _ _ _ _ _)
   | (with_reducible exact spec_l20Rd_odd.mono _ _ _ _)
   | (with_reducible exact spec_l20Rd_pick.mono _ _ _ _)
   | (with_reducible exact LeO.refl _)
   | (with_reducible exact LeO.none _)
   | (with_reducible refine LeO.ite ?_ ?_)
   | (with_reducible refine LeO.bind ?_ (fun _ => ?_))
   | exact ih0 _ _ _ _ _ _
   | exact ih1 _ _ _ _ _ _ _ _ _
   | exact ih2 _ _ _ _ _ _ _ _ _ _
   | exact ih3 _ _ _ _ _ _ _ _ _ _
   | exact spec_RoutePut.mono _ _ _ _ _ _
   | exact spec_l20Rd_odd.mono _ _ _ _
   | exact spec_l20Rd_pick.mono _ _ _ _
   | exact LeO.none _
   | refine LeO.ite ?_ ?_
   | refine LeO.bind ?_ (fun _ => ?_)
def spec_l20Net.T16 : Bool × List (List Nat × List Nat) := (true, [([], []), ([0], [0]), ([], []), ([2], [2]), ([], []), ([], []), ([5], [5]), ([6], [6]), ([7], [7]), ([3, 4, 8], [3, 4, 8]), ([1, 9, 6], [1, 9]), ([10], [10]), ([11], [11]), ([11], [11]), ([0, 1, 2, 3, 4, 5, 6, 7, 8, 9, 10, 11, 12], []), ([14, 12, 10, 0, 1, 2, 3, 4, 5, 6, 7, 8, 9, 10, 11, 12], [12, 14])])
def spec_l20Net.B16 : List Nat := [0, 1, 0, 4, 0, 0, 32, 96, 224, 508, 1023, 2047, 4095, 4095, 8191, 24575]
theorem spec_l20Net.tab16 : rtab .any (opsOf Try.f45 16) = spec_l20Net.T16 := by kernel_rfl
theorem spec_l20Net.bits16 : waitsOk spec_l20Net.T16.2 spec_l20Net.B16 = true := by kernel_rfl
def spec_l20Net.T18 : Bool × List (List Nat × List Nat) := (true, [([], []), ([0], [0]), ([], []), ([], []), ([2, 3], [2, 3]), ([4], [4]), ([5], [5]), ([1, 6, 4], [1, 6]), ([7], [7]), ([8], [8]), ([8], [8]), ([0, 1, 2, 3, 4, 5, 6, 7, 8, 9], []), ([11, 9, 7, 0, 1, 2, 3, 4, 5, 6, 7, 8, 9], [9, 11])])
def spec_l20Net.B18 : List Nat := [0, 1, 0, 0, 12, 28, 60, 127, 255, 511, 511, 1023, 3071]
theorem spec_l20Net.tab18 : rtab .any (opsOf Try.f45 18) = spec_l20Net.T18 := by kernel_rfl
theorem spec_l20Net.bits18 : waitsOk spec_l20Net.T18.2 spec_l20Net.B18 = true := by kernel_rfl
set_option maxHeartbeats 8000000 in
set_option maxRecDepth 100000 in
theorem spec_l20Net.calls (k : Nat) (g : Nat) (s0_0 : List Int) (s0_1 : Int) (a1 : Int) (r1 : List (S34)) (r2 : Int) (w0 w : World) (hI : IsS107 w0 w g s0_0 s0_1) (hB : Below w0.heap.size w0 w) (h : spec_l20Net.f k s0_0 s0_1 a1 = some (r1, r2)) :
  Calls Try.prog 45 #[.pointer (some ⟨g, 0, none⟩), .int .i64 a1] w fun e w' => ∃ v0_ : Value, e = .returned (v0_) ∧ Kd.N k34 34 w' w.heap.size (fun k_ => (w.heap.size ≤ k_)) v0_ r1 ∧ IsS107 w0 w' g s0_0 r2 ∧ Below w0.heap.size w0 w' ∧ KeepBut w w' g none := by
 have hu34 := Try.underlying34
 have hu29 := Try.underlying29
 have HI0 := mk_ hI
 have HK := mk_ (KeepBut.refl w g none)
 have HL := mk_ hB.size
 clear hI
 have HW0 := mk_ hB.size
 have HB := mk_ hB
 clear hB
 have H := h
 unfold spec_l20Net.f at H
 clear h
 replace H := Option.bind_eq_some_iff.mp H
 obtain ⟨⟨t158, t159⟩, A30, H⟩ := H
 replace H : (spec_l20Net.l0 k a1 (wrap64 (1 + t158)) (([] : List (S34))) 0 s0_0 t159) = some (r1, r2) := H
 have A3 := mk_ A30
 clear A30
 obtain ⟨y160, hy160⟩ : ∃ y_ : List (S34), y_ = (([] : List (S34))) := ⟨_, rfl⟩
 replace H : (spec_l20Net.l0 k a1 (wrap64 (1 + t158)) y160 0 s0_0 t159) = some (r1, r2) := by first | (rw [hy160]; with_reducible exact H) | (have H2_ := (Option.bind_some _ _).symm.trans H; rw [hy160]; with_reducible exact H2_) | (have H2_ := (Option.bind_some _ _).symm.trans H; with_reducible exact H2_) | with_reducible exact H | (rw [hy160]; exact H) | exact H
 have Ny160 := mk_ hy160
 clear hy160
 have H' := mk_ H
 clear H
 go_enter Try.func45, Try.ntmps45
 go_wp2_with (first | ((with_reducible refine gate_callee (f := 46) rfl ?_); refine goesL_ (some 12) rfl rfl Try.func46 (by kernel_rfl) rfl #[.pointer (some ⟨g, 0, none⟩), .int .i64 5] rfl (by (try simp only [lm_, lo_, ln_]); try rfl) ?_; (with_reducible refine (spec_l20Rd_pick.calls k g s0_0 s0_1 5 t158 t159 w0 _ ?side1 ?side2 A3.out).mono ?_); (case side1 => repeat (first | (with_reducible first | exact HI0.out | apply IsS107.alloc | apply IsS107.drewN | apply IsS107.drew | apply IsS107.set_1) | exact HI0.out)); (case side2 => repeat (first | (with_reducible first | exact HB.out | apply na_ | apply nn_ | apply nw_ | refine bs_ ?_ (IsS107.ge HI0.out)) | exact HB.out)); rintro e w4 ⟨rfl, hi, hb, hk⟩; refine ⟨_, rfl, ?_⟩; replace HK := mk_ (KeepBut.trans (by repeat (first | (with_reducible first | exact HK.out | apply KeepBut.set_ | apply keep_drewN | apply keep_drew | apply keep_alloc) | exact HK.out)) hk (.inl rfl)); replace HB := mk_ (hb); replace HI0 := mk_ (hi)) | ((with_reducible refine gate_dst (N := 14) rfl ?_); refine Kd.N_lit k34 _ 34 ?hg (N' := 14) ?hd (xs := ([] : List (S34))) (inner := []) (ok := (fun k_ => (w.heap.size ≤ k_) ∧ k_ ≠ g)) (okp := (fun k_ => (w.heap.size ≤ k_) ∧ k_ ≠ g)) ?hr ?hp (fun _ hk => hk) ((show ∀ k_, w4.heap.size ≤ k_ → (fun k_ => (w.heap.size ≤ k_) ∧ k_ ≠ g) k_ from fun k_ hk => ⟨(Nat.le_trans (keep_size (w := w) (g := g) (row := none) (by repeat (first | (with_reducible first | exact HK.out | apply KeepBut.set_ | apply keep_drewN | apply keep_drew | apply keep_alloc) | exact HK.out))) hk), IsS107.fresh (by repeat (first | (with_reducible first | exact HI0.out | apply IsS107.alloc | apply IsS107.drewN | apply IsS107.drew | apply IsS107.set_1) | exact HI0.out)) k_ hk⟩) _ (Nat.le_refl _)) (Below.refl _ _) (Nat.le_refl _) (by simp) ?_; (case hd => rfl); (case hg => rfl); (case hr => first | (go_simp; done) | (go_simp; rfl)); (case hp => exact (Reps.none _ _)); intro v161 w5 ho6 hb hg_ hnew_; clear hg_ hnew_; (first | rw [← Ny160.out] at ho6 | (simp only [Int.reduceToNat] at ho6; rw [← Ny160.out] at ho6)); have HO162 := mk_ (Kd.N_lower ho6 (keep_size (w := w) (g := g) (row := none) (by repeat (first | (with_reducible first | exact HK.out | apply KeepBut.set_ | apply keep_drewN | apply keep_drew | apply keep_alloc) | exact HK.out)))); have n1_ := mk_ (IsS107.below (by repeat (first | (with_reducible first | exact HI0.out | apply IsS107.alloc | apply IsS107.drewN | apply IsS107.drew | apply IsS107.set_1) | exact HI0.out)) hb); replace HK := mk_ (KeepBut.trans (by repeat (first | (with_reducible first | exact HK.out | apply KeepBut.set_ | apply keep_drewN | apply keep_drew | apply keep_alloc) | exact HK.out)) (KeepBut.of_below hb g none) (.inl rfl)); replace HB := mk_ (below_step (by repeat (first | (with_reducible first | exact HB.out | apply na_ | apply nn_ | apply nw_ | refine bs_ ?_ (IsS107.ge HI0.out)) | exact HB.out)) hb); replace HI0 := n1_; clear n1_; clear hb ho6))
 go_loopg [6, 7] k (fun kq v6 v7 w' => ∃ (x6_1 : List (S34)) (x7_1 : Int) (x1001_1 : Int), v7 = .int .i64 x7_1 ∧ Aside0 (spec_l20Net.l0 kq a1 (wrap64 (1 + t158)) x6_1 x7_1 s0_0 x1001_1 = some (r1, r2)) ∧ Aside0 (kq ≤ k) ∧ Aside0 (Kd.N k34 34 w' w.heap.size (fun k_ => (w.heap.size ≤ k_) ∧ k_ ≠ g) v6 x6_1) ∧ Aside0 (IsS107 w0 w' g s0_0 x1001_1) ∧ Aside0 (KeepBut w w' g none) ∧ Aside0 (Below w0.heap.size w0 w'))
 case atStart => exact ⟨(y160), (0), (t159), (by first | rfl | (simp; done) | (simp [*]; done)), H', ⟨Nat.le_refl _⟩, ⟨by (with_reducible repeat (first | apply Kd.N_alloc | apply Kd.N_drewN | apply Kd.N_drew)); exact HO162.out⟩, ⟨by repeat (first | (with_reducible first | exact HI0.out | apply IsS107.alloc | apply IsS107.drewN | apply IsS107.drew | apply IsS107.set_1) | exact HI0.out)⟩, ⟨by repeat (first | (with_reducible first | exact HK.out | apply KeepBut.set_ | apply keep_drewN | apply keep_drew | apply keep_alloc) | exact HK.out)⟩, ⟨by repeat (first | (with_reducible first | exact HB.out | apply na_ | apply nn_ | apply nw_ | refine bs_ ?_ (IsS107.ge HI0.out)) | exact HB.out)⟩⟩
 case round =>
  clear H'
  try clear p2
  try clear c4
  try clear p6
  obtain ⟨x6_1, x7_1, x1001_1, rfl, HA, HK1, HO_6, HI0, HK, HB⟩ := hrel
  cases gk with
  | zero => exact absurd HA.out (by simp [spec_l20Net.l0])
  | succ k1 =>
   have H := HA.out
   clear HA
   simp only [spec_l20Net.l0] at H
   by_cases c7 : x7_1 < (wrap64 (1 + t158))
   rotate_left
   ·rw [if_neg c7] at H
    have c7b0 : decide (x7_1 < (wrap64 (1 + t158))) = false := decide_eq_false c7
    clear c7
    replace H := Option.bind_eq_some_iff.mp H
    obtain ⟨⟨t163, t164⟩, A630, H⟩ := H
    (try dsimp only at H)
    have A63 := mk_ A630
    clear A630
    by_cases c64 : t163 = true
    rotate_left
    ·replace c64 := Bool.eq_false_iff.mpr c64
     subst c64
     have H1 : (some (x6_1, t164)) = some (r1, r2) := by rw [if_neg (show ¬ (false = true) by decide)] at H; exact H
     clear H
     have H := H1
     clear H1
     simp only [Option.some.injEq, Prod.mk.injEq] at H
     obtain ⟨rfl, rfl⟩ := H
     go_wp2_with (first | ((with_reducible refine gate_callee (f := 90) rfl ?_); refine goesL_ (some 89) rfl rfl Try.func90 (by kernel_rfl) rfl #[.pointer (some ⟨g, 0, none⟩), .int .i64 a1] rfl (by (try simp only [lm_, lo_, ln_]); try rfl) ?_; (with_reducible refine (spec_l20Rd_odd.calls k1 g s0_0 x1001_1 a1 false t164 w0 _ ?side1 ?side2 A63.out).mono ?_); (case side1 => repeat (first | (with_reducible first | exact HI0.out | apply IsS107.alloc | apply IsS107.drewN | apply IsS107.drew | apply IsS107.set_1) | exact HI0.out)); (case side2 => repeat (first | (with_reducible first | exact HB.out | apply na_ | apply nn_ | apply nw_ | refine bs_ ?_ (IsS107.ge HI0.out)) | exact HB.out)); rintro e w70 ⟨rfl, hi, hb, hk⟩; refine ⟨_, rfl, ?_⟩; replace HO_6 := mk_ (Kd.N_mono (Kd.N_keep (Kd.N_mono (ok := fun k_ => (((w.heap.size ≤ k_)) ∧ k_ ≠ g)) (by (with_reducible repeat (first | apply Kd.N_alloc | apply Kd.N_drewN | apply Kd.N_drew)); exact HO_6.out) (fun k_ hk_ => (⟨hk_, hk_.2⟩ : _ ∧ k_ ≠ g))) hk (fun _ h => h.2)) (fun _ h => h.1)); replace HK := mk_ (KeepBut.trans (by repeat (first | (with_reducible first | exact HK.out | apply KeepBut.set_ | apply keep_drewN | apply keep_drew | apply keep_alloc) | exact HK.out)) hk (.inl rfl)); replace HB := mk_ (hb); replace HI0 := mk_ (hi)))
     go_ret
     exact ⟨_, by first | rfl | (simp [errW_none, errW_some] <;> rfl) | (simp [*, errW_none, errW_some] <;> rfl), by (with_reducible repeat (first | apply Kd.N_alloc | apply Kd.N_drewN | apply Kd.N_drew)); exact Kd.N_mono HO_6.out (fun _ hk => hk.1), by repeat (first | (with_reducible first | exact HI0.out | apply IsS107.alloc | apply IsS107.drewN | apply IsS107.drew | apply IsS107.set_1) | exact HI0.out), by repeat (first | (with_reducible first | exact HB.out | apply na_ | apply nn_ | apply nw_ | refine bs_ ?_ (IsS107.ge HI0.out)) | exact HB.out), by repeat (first | (with_reducible first | exact HK.out | apply KeepBut.set_ | apply keep_drewN | apply keep_drew | apply keep_alloc) | exact HK.out)⟩
    subst c64
    rw [if_pos rfl] at H
    by_cases c65 : 0 < (x6_1.length : Int)
    rotate_left
    ·rw [if_neg c65] at H
     exact absurd H (by simp)
    rw [if_pos c65] at H
    have c65b0 : decide (0 < (x6_1.length : Int)) = true := decide_eq_true c65
    have c65b1 : decide (0 < x6_1.length) = true := decide_eq_true (by omega)
    clear c65
    by_cases c66 : x6_1.length < 4398046511104
    rotate_left
    ·rw [if_neg c66] at H
     exact absurd H (by simp)
    rw [if_pos c66] at H
    have LMc66 := mk_ c66
    clear c66
    obtain ⟨y166, hy166⟩ : ∃ y_ : List (S34), y_ = (x6_1 ++ [(⟨(rd_T34 x6_1 0).f0, (rd_T34 x6_1 0).f1⟩ : S34)]) := ⟨_, rfl⟩
    replace H : (some (y166, t164)) = some (r1, r2) := by first | (rw [hy166]; with_reducible exact H) | (have H2_ := (Option.bind_some _ _).symm.trans H; rw [hy166]; with_reducible exact H2_) | (have H2_ := (Option.bind_some _ _).symm.trans H; with_reducible exact H2_) | with_reducible exact H | (rw [hy166]; exact H) | exact H
    have Ny166 := mk_ hy166
    clear hy166
    simp only [Option.some.injEq, Prod.mk.injEq] at H
    obtain ⟨rfl, rfl⟩ := H
    go_wp2_with (first | ((with_reducible refine gate_callee (f := 90) rfl ?_); refine goesL_ (some 89) rfl rfl Try.func90 (by kernel_rfl) rfl #[.pointer (some ⟨g, 0, none⟩), .int .i64 a1] rfl (by (try simp only [lm_, lo_, ln_]); try rfl) ?_; (with_reducible refine (spec_l20Rd_odd.calls k1 g s0_0 x1001_1 a1 true t164 w0 _ ?side1 ?side2 A63.out).mono ?_); (case side1 => repeat (first | (with_reducible first | exact HI0.out | apply IsS107.alloc | apply IsS107.drewN | apply IsS107.drew | apply IsS107.set_1) | exact HI0.out)); (case side2 => repeat (first | (with_reducible first | exact HB.out | apply na_ | apply nn_ | apply nw_ | refine bs_ ?_ (IsS107.ge HI0.out)) | exact HB.out)); rintro e w67 ⟨rfl, hi, hb, hk⟩; refine ⟨_, rfl, ?_⟩; replace HO_6 := mk_ (Kd.N_mono (Kd.N_keep (Kd.N_mono (ok := fun k_ => (((w.heap.size ≤ k_)) ∧ k_ ≠ g)) (by (with_reducible repeat (first | apply Kd.N_alloc | apply Kd.N_drewN | apply Kd.N_drew)); exact HO_6.out) (fun k_ hk_ => (⟨hk_, hk_.2⟩ : _ ∧ k_ ≠ g))) hk (fun _ h => h.2)) (fun _ h => h.1)); replace HK := mk_ (KeepBut.trans (by repeat (first | (with_reducible first | exact HK.out | apply KeepBut.set_ | apply keep_drewN | apply keep_drew | apply keep_alloc) | exact HK.out)) hk (.inl rfl)); replace HB := mk_ (hb); replace HI0 := mk_ (hi); obtain ⟨Ao68, co68, eo68⟩ := Kd.N_slice HO_6.out; subst eo68; have p165 : 0 ≤ (0 : Int) := (by omega); have q165 : 0 < (x6_1.length : Int) := of_decide_eq_true (by first | (with_reducible assumption) | assumption); obtain ⟨ad165, A165_1, c165_1, e165, hx165_0, hx165_1, hl165_1, hi165_1⟩ := at_T34 (Kd.N_reads' HO_6.out).2.2 0 p165 q165; cases e165; obtain ⟨ce165, hce165, hMe165, hcc165⟩ := Kd.N_get HO_6.out z34 0 p165 (by first | exact q165 | exact of_decide_eq_true (by first | (with_reducible assumption) | assumption) | (have e_ := (Kd.N_reads' HO_6.out).1; omega)); obtain ⟨ua165_1, uc165_1, rfl, ul165_1, ge165_1⟩ := k34_openF hMe165; have hv165_1 := hcc165 1 _ rfl; rw [add_field _ _ 1 (by omega)] at hv165_1; replace hv165_1 := Option.some.inj (hv165_1.symm.trans hx165_1); injection hv165_1 with hva_ hvn_ hvc_; rw [hva_] at ge165_1; rw [hvc_] at ul165_1; have HL165_1 := mk_ (show Kd.V k29 29 _ w.heap.size _ _ ((rd_T34 x6_1 0).f1) from Kd.V_mk ul165_1 ge165_1); clear hva_ hvn_ hvc_ ge165_1 ul165_1; clear hcc165 hce165; have qi165 : (0 < x6_1.length) = True := eq_true (by omega); (try rw [show ((0 : Int)).toNat = 0 from rfl] at hx165_0); (try rw [show 0 * 2 = 0 from rfl] at hx165_0); (try rw [Addr.add_zero'] at hx165_0); (try rw [show ((0 : Int)).toNat = 0 from rfl] at hx165_1); (try rw [show 0 * 2 = 0 from rfl] at hx165_1); (try rw [Addr.add_zero'] at hx165_1); have HR165_1 := mk_ hi165_1; have HC165_1 := mk_ hl165_1; clear hi165_1 hl165_1; replace p165 := eq_true p165; replace q165 := eq_true q165) | ((with_reducible refine gate_builtin (b := .append) (xs := #[.tmp 90, .tmp 94]) rfl ?_); at_builtin; refine Kd.N_append k34 w.heap.size rfl (.tmp 90) (.tmp 94) 23 34 (.agg #[(.int .i64 0), (.slice none 0 0)]) 32 rfl Try.underlying23 info34 rfl (by decide) (by omega) (.slice (some ad165) x6_1.length co68) x6_1 (⟨(rd_T34 x6_1 0).f0, (rd_T34 x6_1 0).f1⟩ : S34) [.int .i64 ((rd_T34 x6_1 0).f0), .slice A165_1 ((rd_T34 x6_1 0).f1).length c165_1] (fun k_ => (w.heap.size ≤ k_) ∧ k_ ≠ g) (fun k_ => ((fun k_ => (w.heap.size ≤ k_) ∧ k_ ≠ g)) k_ ∧ some k_ ≠ (.slice (some ad165) x6_1.length co68 : Value).ownBlock) rfl rfl ?aP (fun _ hk => hk) ?aF ?aO (Below.refl _ _) ?aS ?aL ?_; (case aP => exact (k34_mkF _ _ (⟨(rd_T34 x6_1 0).f0, (rd_T34 x6_1 0).f1⟩ : S34) (Kd.V_reads' (Kd.V_mono (ok' := (fun k_ => ((fun k_ => (w.heap.size ≤ k_) ∧ k_ ≠ g)) k_ ∧ some k_ ≠ (.slice (some ad165) x6_1.length co68 : Value).ownBlock)) (HL165_1.out) (fun k_ hk => by first | exact ⟨⟨hk.1.1, hk.1.2⟩, hk.2⟩ | exact hk.1 | exact hk | exact ⟨hk.1, hk.2⟩ | exact ⟨.inr hk.1, hk.2⟩ | simp only [hk, ne_eq, not_false_eq_true, and_self]))).2.1 (Kd.V_F (Kd.V_mono (ok' := (fun k_ => ((fun k_ => (w.heap.size ≤ k_) ∧ k_ ≠ g)) k_ ∧ some k_ ≠ (.slice (some ad165) x6_1.length co68 : Value).ownBlock)) (HL165_1.out) (fun k_ hk => by first | exact ⟨⟨hk.1.1, hk.1.2⟩, hk.2⟩ | exact hk.1 | exact hk | exact ⟨hk.1, hk.2⟩ | exact ⟨.inr hk.1, hk.2⟩ | simp only [hk, ne_eq, not_false_eq_true, and_self]))))); (case aF => exact (fun k_ hk => ⟨(Nat.le_trans (keep_size (w := w) (g := g) (row := none) (by repeat (first | (with_reducible first | exact HK.out | apply KeepBut.set_ | apply keep_drewN | apply keep_drew | apply keep_alloc) | exact HK.out))) hk), IsS107.fresh (by repeat (first | (with_reducible first | exact HI0.out | apply IsS107.alloc | apply IsS107.drewN | apply IsS107.drew | apply IsS107.set_1) | exact HI0.out)) k_ hk⟩)); (case aO => exact (by (with_reducible repeat (first | apply Kd.N_alloc | apply Kd.N_drewN | apply Kd.N_drew)); exact HO_6.out)); (case aS => exact (keep_size (w := w) (g := g) (row := none) (by repeat (first | (with_reducible first | exact HK.out | apply KeepBut.set_ | apply keep_drewN | apply keep_drew | apply keep_alloc) | exact HK.out)))); (case aL => have := LMc66.out; omega); intro v167 w69 ho hb hg hat; rw [← Ny166.out] at ho; have n0_ := mk_ (IsS107.grown (by repeat (first | (with_reducible first | exact HI0.out | apply IsS107.alloc | apply IsS107.drewN | apply IsS107.drew | apply IsS107.set_1) | exact HI0.out)) hg (IsS107.own_neN HI0.out HO_6.out (by decide))); replace HL165_1 := mk_ (Kd.V_afterv (ok := (fun k_ => (w.heap.size ≤ k_) ∧ k_ ≠ g)) (by (with_reducible repeat (first | apply Kd.V_alloc | apply Kd.V_drewN | apply Kd.V_drew)); exact HL165_1.out) hg hat); replace HB := mk_ (below_weaken (by repeat (first | (with_reducible first | exact HB.out | apply na_ | apply nn_ | apply nw_ | refine bs_ ?_ (IsS107.ge HI0.out)) | exact HB.out)) HL.out hb); replace HK := mk_ (KeepBut.trans (by repeat (first | (with_reducible first | exact HK.out | apply KeepBut.set_ | apply keep_drewN | apply keep_drew | apply keep_alloc) | exact HK.out)) (KeepBut.of_grown hg g) (Kd.N_base2 HO_6.out)); have HO168 := mk_ (ho); replace HI0 := n0_; clear n0_; clear HO_6; clear ho hb hg hat))
    go_ret
    exact ⟨_, by first | rfl | (simp [errW_none, errW_some] <;> rfl) | (simp [*, errW_none, errW_some] <;> rfl), by (with_reducible repeat (first | apply Kd.N_alloc | apply Kd.N_drewN | apply Kd.N_drew)); exact Kd.N_mono HO168.out (fun _ hk => hk.1), by repeat (first | (with_reducible first | exact HI0.out | apply IsS107.alloc | apply IsS107.drewN | apply IsS107.drew | apply IsS107.set_1) | exact HI0.out), by repeat (first | (with_reducible first | exact HB.out | apply na_ | apply nn_ | apply nw_ | refine bs_ ?_ (IsS107.ge HI0.out)) | exact HB.out), by repeat (first | (with_reducible first | exact HK.out | apply KeepBut.set_ | apply keep_drewN | apply keep_drew | apply keep_alloc) | exact HK.out)⟩
   rw [if_pos c7] at H
   have c7b0 : decide (x7_1 < (wrap64 (1 + t158))) = true := decide_eq_true c7
   clear c7
   have H' := mk_ H
   clear H
   go_wp2_with (first | ((with_reducible refine gate_dst (N := 8) rfl ?_); refine box_event ?hg (N := 8) ?hd (cs := #[.int .i64 0, .slice none 0 0]) (t := 34) ?hr ?_; (case hd => rfl); (case hg => rfl); (case hr => first | (go_simp; done) | (go_simp; rfl)); intro gb169 hg w8 hbox hb; replace HO_6 := mk_ (Kd.N_below (Kd.N_elderB (by (with_reducible repeat (first | apply Kd.N_alloc | apply Kd.N_drewN | apply Kd.N_drew)); exact HO_6.out) gb169 (Nat.le_of_eq hg.symm)) hb); have n1_ := mk_ (IsS107.below (by repeat (first | (with_reducible first | exact HI0.out | apply IsS107.alloc | apply IsS107.drewN | apply IsS107.drew | apply IsS107.set_1) | exact HI0.out)) hb); have n2_ := mk_ (KeepBut.trans (by repeat (first | (with_reducible first | exact HK.out | apply KeepBut.set_ | apply keep_drewN | apply keep_drew | apply keep_alloc) | exact HK.out)) (KeepBut.of_below hb g none) (.inl rfl)); replace HB := mk_ (below_step (by repeat (first | (with_reducible first | exact HB.out | apply na_ | apply nn_ | apply nw_ | refine bs_ ?_ (IsS107.ge HI0.out)) | exact HB.out)) hb); have BK169 := mk_ (hbox); have GW169 := mk_ ((by rw [hg]; exact (keep_size (w := w) (g := g) (row := none) (by repeat (first | (with_reducible first | exact HK.out | apply KeepBut.set_ | apply keep_drewN | apply keep_drew | apply keep_alloc) | exact HK.out))) : w.heap.size ≤ gb169)); have GE169 := ge_ ((Nat.le_trans HW0.out (by rw [hg]; exact (keep_size (w := w) (g := g) (row := none) (by repeat (first | (with_reducible first | exact HK.out | apply KeepBut.set_ | apply keep_drewN | apply keep_drew | apply keep_alloc) | exact HK.out))) : w.heap.size ≤ gb169) : w0.heap.size ≤ gb169)); have NB0_169 := nq_ ((by rw [hg]; exact Nat.ne_of_lt (IsS107.lt (show IsS107 w0 _ g s0_0 x1001_1 from by repeat (first | (with_reducible first | exact HI0.out | apply IsS107.alloc | apply IsS107.drewN | apply IsS107.drew | apply IsS107.set_1) | exact HI0.out))) : g ≠ gb169)); have NB169_0 := nq_ ((by rw [hg]; exact Nat.ne_of_gt (IsS107.lt (show IsS107 w0 _ g s0_0 x1001_1 from by repeat (first | (with_reducible first | exact HI0.out | apply IsS107.alloc | apply IsS107.drewN | apply IsS107.drew | apply IsS107.set_1) | exact HI0.out))) : gb169 ≠ g)); replace HI0 := n1_; replace HK := n2_; clear n1_ n2_; clear hb hbox hg; have hnb9 := NB169_0.out; have hnc9 := NB0_169.out; obtain ⟨hcz10_0, hcz10_1, hfz10_0, hfz10_1⟩ := cells2_ BK169.out))
   go_loopg [9] k1 (fun kq v9 w' => ∃ (x9_2 : Int) (x1001_2 : Int) (x170001_2 : List (S29)) (u170001 : Value), v9 = .int .i64 x9_2 ∧ Aside0 (spec_l20Net.l1 kq a1 (wrap64 (1 + t158)) x6_1 x7_1 x9_2 s0_0 x1001_2 (wrap64 (10 + x7_1)) x170001_2 = some (r1, r2)) ∧ Aside0 (kq ≤ k1) ∧ Aside0 (Kd.N k34 34 w' w.heap.size (fun k_ => (w.heap.size ≤ k_) ∧ some k_ ≠ (u170001 : Value).ownBlock ∧ k_ ≠ gb169 ∧ k_ ≠ g) u6 x6_1) ∧ Aside0 (Kd.R k29 29 w' w.heap.size (fun k_ => (w.heap.size ≤ k_)) u170001 x170001_2) ∧ Aside0 (w'.heap[gb169]? = some (.cells #[.int .i64 (wrap64 (10 + x7_1)), u170001] 34 (0, 0))) ∧ Aside0 (IsS107 w0 w' g s0_0 x1001_2) ∧ Aside0 (KeepBut w w' g none) ∧ Aside0 (Below w0.heap.size w0 w'))
   case atStart => exact ⟨(0), (x1001_1), (([] : List (S29))), (.slice none 0 0), (by first | rfl | (simp; done) | (simp [*]; done)), H', ⟨Nat.le_refl _⟩, ⟨by (with_reducible repeat (first | apply Kd.N_alloc | apply Kd.N_drewN | apply Kd.N_drew)); exact Kd.N_mono (Kd.N_far (p := ⟨gb169, 1, none⟩) (Kd.N_far (p := ⟨gb169, 0, none⟩) (Kd.N_mono HO_6.out (fun k_ hk => (⟨hk, hk.2⟩ : _ ∧ k_ ≠ gb169))) (fun _ hk => hk.2) (.int .i64 (wrap64 (10 + x7_1)))) (fun _ hk => hk.2) (.slice none 0 0)) (fun _ hk => ⟨hk.1.1.1, ⟨(by simp [Value.ownBlock]), ⟨hk.1.2, hk.1.1.2⟩⟩⟩)⟩, ⟨by first | exact Kd.R_nil _ _ _ _ _ | exact Kd.N_nil _ _ _ _ _ | exact Kd.V_nil _ _ _ _ _ | exact Kd.Q_nil _ _ _ _ _ | exact Kd.S_nil _ _ _ _ _⟩, ⟨by (with_reducible repeat (first | refine bn_ ?_ _ | refine bw_ ?_ | refine ba_ ?_ _)); refine blk_put (cs := #[.int .i64 (wrap64 (10 + x7_1)), .slice none 0 0]) ?_ 1 _ rfl; (with_reducible repeat (first | refine bn_ ?_ _ | refine bw_ ?_ | refine ba_ ?_ _)); refine blk_put (cs := #[.int .i64 0, .slice none 0 0]) ?_ 0 _ rfl; (with_reducible repeat (first | refine bn_ ?_ _ | refine bw_ ?_ | refine ba_ ?_ _)); exact BK169.out⟩, ⟨by repeat (first | (with_reducible first | exact HI0.out | apply IsS107.alloc | apply IsS107.drewN | apply IsS107.drew | apply IsS107.set_1 | refine IsS107.far ?_ NB0_169.out _) | exact HI0.out)⟩, ⟨by repeat (first | (with_reducible first | exact HK.out | apply KeepBut.set_ | apply keep_drewN | apply keep_drew | apply keep_alloc | refine keep_far ?_ GW169.out _) | exact HK.out)⟩, ⟨by repeat (first | (with_reducible first | exact HB.out | apply na_ | apply nn_ | apply nw_ | refine bs_ ?_ (IsS107.ge HI0.out) | refine bs_ ?_ GE169.out) | exact HB.out)⟩⟩
   case round =>
    clear H'
    try clear p2
    try clear c4
    try clear p6
    try clear c7
    try clear c7b0
    try clear c9
    try clear hcz10_0
    try clear hcz10_1
    try clear hfz10_0
    try clear hfz10_1
    try clear p2
    try clear p6
    obtain ⟨x9_2, x1001_2, x170001_2, u170001, rfl, HA, HK2, HO_6, HO_170001, BK169, HI0, HK, HB⟩ := hrel
    cases gk with
    | zero => exact absurd HA.out (by simp [spec_l20Net.l1])
    | succ k2 =>
     have H := HA.out
     clear HA
     simp only [spec_l20Net.l1] at H
     by_cases c11 : x9_2 < (wrap64 (1 + t158))
     rotate_left
     ·rw [if_neg c11] at H
      have c11b0 : decide (x9_2 < (wrap64 (1 + t158))) = false := decide_eq_false c11
      clear c11
      replace H := Option.bind_eq_some_iff.mp H
      obtain ⟨⟨t188, t189⟩, A410, H⟩ := H
      (try dsimp only at H)
      have A41 := mk_ A410
      clear A410
      by_cases c42 : t188 = 0
      rotate_left
      ·rw [if_neg c42] at H
       have c42b0 : (t188 == 0) = false := beq_eq_false_iff_ne.mpr c42
       have c42b1 : (t188 != 0) = true := bne_iff_ne.mpr c42
       by_cases c57 : x6_1.length < 4398046511104
       rotate_left
       ·rw [if_neg c57] at H
        exact absurd H (by simp)
       rw [if_pos c57] at H
       have LMc57 := mk_ c57
       clear c57
       obtain ⟨y199, hy199⟩ : ∃ y_ : List (S34), y_ = (x6_1 ++ [(⟨(wrap64 (10 + x7_1)), x170001_2⟩ : S34)]) := ⟨_, rfl⟩
       replace H : (spec_l20Net.l0 k2 a1 (wrap64 (1 + t158)) y199 (wrap64 (x7_1 + 1)) s0_0 t189) = some (r1, r2) := by first | (rw [hy199]; with_reducible exact H) | (have H2_ := (Option.bind_some _ _).symm.trans H; rw [hy199]; with_reducible exact H2_) | (have H2_ := (Option.bind_some _ _).symm.trans H; with_reducible exact H2_) | with_reducible exact H | (rw [hy199]; exact H) | exact H
       have Ny199 := mk_ hy199
       clear hy199
       have H' := mk_ H
       clear H
       go_wp2_with (first | ((with_reducible refine gate_callee (f := 46) rfl ?_); refine goesL_ (some 69) rfl rfl Try.func46 (by kernel_rfl) rfl #[.pointer (some ⟨g, 0, none⟩), .int .i64 4] rfl (by (try simp only [lm_, lo_, ln_]); try rfl) ?_; (with_reducible refine (spec_l20Rd_pick.calls k2 g s0_0 x1001_2 4 t188 t189 w0 _ ?side1 ?side2 A41.out).mono ?_); (case side1 => repeat (first | (with_reducible first | exact HI0.out | apply IsS107.alloc | apply IsS107.drewN | apply IsS107.drew | apply IsS107.set_1 | refine IsS107.far ?_ NB0_169.out _) | exact HI0.out)); (case side2 => repeat (first | (with_reducible first | exact HB.out | apply na_ | apply nn_ | apply nw_ | refine bs_ ?_ (IsS107.ge HI0.out) | refine bs_ ?_ GE169.out) | exact HB.out)); rintro e w58 ⟨rfl, hi, hb, hk⟩; refine ⟨_, rfl, ?_⟩; replace HO_6 := mk_ (Kd.N_mono (Kd.N_keep (Kd.N_mono (ok := fun k_ => (((w.heap.size ≤ k_)) ∧ (some k_ ≠ (u170001 : Value).ownBlock ∧ (k_ ≠ gb169 ∧ k_ ≠ g)))) (by (with_reducible repeat (first | apply Kd.N_alloc | apply Kd.N_drewN | apply Kd.N_drew)); exact HO_6.out) (fun k_ hk_ => (⟨hk_, hk_.2.2.2⟩ : _ ∧ k_ ≠ g))) hk (fun _ h => h.2)) (fun _ h => h.1)); replace HO_170001 := mk_ (Kd.R_mono (Kd.R_keep (IsS107.apart (show IsS107 w0 _ g s0_0 x1001_2 from by repeat (first | (with_reducible first | exact HI0.out | apply IsS107.alloc | apply IsS107.drewN | apply IsS107.drew | apply IsS107.set_1 | refine IsS107.far ?_ NB0_169.out _) | exact HI0.out)) (Kd.ur_ HO_170001.out) (by decide)) hk (fun _ h => h.2)) (fun _ h => h.1)); replace BK169 := mk_ (KeepBut.blk hk (g' := gb169) (o := .cells #[.int .i64 (wrap64 (10 + x7_1)), u170001] 34 (0, 0)) (u_ BK169.out) NB169_0.out (by simp)); replace HK := mk_ (KeepBut.trans (by repeat (first | (with_reducible first | exact HK.out | apply KeepBut.set_ | apply keep_drewN | apply keep_drew | apply keep_alloc | refine keep_far ?_ GW169.out _) | exact HK.out)) hk (.inl rfl)); replace HB := mk_ (hb); replace HI0 := mk_ (hi); have hnb59 := NB169_0.out; have hnc59 := NB0_169.out; obtain ⟨_, _, _, _⟩ := cells2_ BK169.out; obtain ⟨Ao62, co62, eo62⟩ := Kd.R_slice HO_170001.out; subst eo62) | ((with_reducible refine gate_builtin (b := .append) (xs := #[.tmp 83, .tmp 85]) rfl ?_); at_builtin; refine Kd.N_append k34 w.heap.size rfl (.tmp 83) (.tmp 85) 23 34 (.agg #[(.int .i64 0), (.slice none 0 0)]) 32 rfl Try.underlying23 info34 rfl (by decide) (by omega) u6 x6_1 (⟨(wrap64 (10 + x7_1)), x170001_2⟩ : S34) [.int .i64 (wrap64 (10 + x7_1)), .slice Ao62 x170001_2.length co62] (fun k_ => (w.heap.size ≤ k_) ∧ k_ ≠ gb169 ∧ k_ ≠ g) (fun k_ => ((fun k_ => (w.heap.size ≤ k_) ∧ k_ ≠ gb169 ∧ k_ ≠ g)) k_ ∧ some k_ ≠ (u6 : Value).ownBlock) rfl rfl ?aP (fun _ hk => hk) ?aF ?aO (Below.refl _ _) ?aS ?aL ?_; (case aP => exact (k34_mkF _ _ (⟨(wrap64 (10 + x7_1)), x170001_2⟩ : S34) (Kd.R_reads' (Kd.R_mono (ok' := (fun k_ => ((fun k_ => (w.heap.size ≤ k_) ∧ k_ ≠ gb169 ∧ k_ ≠ g)) k_ ∧ some k_ ≠ (u6 : Value).ownBlock)) (IsS107.apart HI0.out (Kd.R_types (Kd.R_apart' (HO_170001.out) (Kd.N_typed HO_6.out) (by decide)) BK169.out (by decide)) (by decide)) (fun k_ hk => by first | exact ⟨⟨hk.1.1.1, ⟨hk.1.2, hk.2⟩⟩, hk.1.1.2⟩ | exact hk.1 | exact hk | exact ⟨hk.1, hk.2⟩ | exact ⟨.inr hk.1, hk.2⟩ | simp only [hk, ne_eq, not_false_eq_true, and_self]))).2.1 (Kd.R_F (Kd.R_mono (ok' := (fun k_ => ((fun k_ => (w.heap.size ≤ k_) ∧ k_ ≠ gb169 ∧ k_ ≠ g)) k_ ∧ some k_ ≠ (u6 : Value).ownBlock)) (IsS107.apart HI0.out (Kd.R_types (Kd.R_apart' (HO_170001.out) (Kd.N_typed HO_6.out) (by decide)) BK169.out (by decide)) (by decide)) (fun k_ hk => by first | exact ⟨⟨hk.1.1.1, ⟨hk.1.2, hk.2⟩⟩, hk.1.1.2⟩ | exact hk.1 | exact hk | exact ⟨hk.1, hk.2⟩ | exact ⟨.inr hk.1, hk.2⟩ | simp only [hk, ne_eq, not_false_eq_true, and_self]))))); (case aF => exact (fun k_ hk => ⟨(Nat.le_trans (keep_size (w := w) (g := g) (row := none) (by repeat (first | (with_reducible first | exact HK.out | apply KeepBut.set_ | apply keep_drewN | apply keep_drew | apply keep_alloc | refine keep_far ?_ GW169.out _) | exact HK.out))) hk), Kd.freshB (g := gb169) (o := .cells #[.int .i64 (wrap64 (10 + x7_1)), .slice Ao62 x170001_2.length co62] 34 (0, 0)) (u_ BK169.out) k_ hk, IsS107.fresh (by repeat (first | (with_reducible first | exact HI0.out | apply IsS107.alloc | apply IsS107.drewN | apply IsS107.drew | apply IsS107.set_1 | refine IsS107.far ?_ NB0_169.out _) | exact HI0.out)) k_ hk⟩)); (case aO => exact (by (with_reducible repeat (first | apply Kd.N_alloc | apply Kd.N_drewN | apply Kd.N_drew)); exact Kd.N_mono HO_6.out (fun _ hk => by first | exact ⟨hk.1, ⟨hk.2.2.1, hk.2.2.2⟩⟩ | exact hk.1 | exact hk | exact ⟨hk.1, hk.2⟩ | exact ⟨.inr hk.1, hk.2⟩ | simp only [hk, ne_eq, not_false_eq_true, and_self]))); (case aS => exact (keep_size (w := w) (g := g) (row := none) (by repeat (first | (with_reducible first | exact HK.out | apply KeepBut.set_ | apply keep_drewN | apply keep_drew | apply keep_alloc | refine keep_far ?_ GW169.out _) | exact HK.out)))); (case aL => have := LMc57.out; omega); intro v200 w61 ho hb hg hat; rw [← Ny199.out] at ho; replace BK169 := mk_ (blk_grown (g := gb169) (o := .cells #[.int .i64 (wrap64 (10 + x7_1)), .slice Ao62 x170001_2.length co62] 34 (0, 0)) (u_ BK169.out) hg (Kd.N_away HO_6.out (fun _ hk => hk.2.2.1))); have n1_ := mk_ (IsS107.grown (by repeat (first | (with_reducible first | exact HI0.out | apply IsS107.alloc | apply IsS107.drewN | apply IsS107.drew | apply IsS107.set_1 | refine IsS107.far ?_ NB0_169.out _) | exact HI0.out)) hg (IsS107.own_neN HI0.out HO_6.out (by decide))); replace HB := mk_ (below_weaken (by repeat (first | (with_reducible first | exact HB.out | apply na_ | apply nn_ | apply nw_ | refine bs_ ?_ (IsS107.ge HI0.out) | refine bs_ ?_ GE169.out) | exact HB.out)) HL.out hb); replace HK := mk_ (KeepBut.trans (by repeat (first | (with_reducible first | exact HK.out | apply KeepBut.set_ | apply keep_drewN | apply keep_drew | apply keep_alloc | refine keep_far ?_ GW169.out _) | exact HK.out)) (KeepBut.of_grown hg g) (Kd.N_base2 HO_6.out)); have HO201 := mk_ (ho); replace HI0 := n1_; clear n1_; clear HO_6 HO_170001; clear ho hb hg hat))
       go_roundg k2
       case measure => have := HK1.out; have := HK2.out; omega
       case rel => exact ⟨(y199), (wrap64 (x7_1 + 1)), (t189), (by first | rfl | (simp; done) | (simp [*]; done)), H', ⟨by have := HK1.out; have := HK2.out; omega⟩, ⟨by (with_reducible repeat (first | apply Kd.N_alloc | apply Kd.N_drewN | apply Kd.N_drew)); exact Kd.N_mono HO201.out (fun _ hk => by first | exact ⟨hk.1, hk.2.2⟩ | exact hk.1 | exact hk | exact ⟨hk.1, hk.2⟩ | exact ⟨.inr hk.1, hk.2⟩ | simp only [hk, ne_eq, not_false_eq_true, and_self])⟩, ⟨by repeat (first | (with_reducible first | exact HI0.out | apply IsS107.alloc | apply IsS107.drewN | apply IsS107.drew | apply IsS107.set_1 | refine IsS107.far ?_ NB0_169.out _) | exact HI0.out)⟩, ⟨by repeat (first | (with_reducible first | exact HK.out | apply KeepBut.set_ | apply keep_drewN | apply keep_drew | apply keep_alloc | refine keep_far ?_ GW169.out _) | exact HK.out)⟩, ⟨by repeat (first | (with_reducible first | exact HB.out | apply na_ | apply nn_ | apply nw_ | refine bs_ ?_ (IsS107.ge HI0.out) | refine bs_ ?_ GE169.out) | exact HB.out)⟩⟩
      rw [if_pos c42] at H
      have c42b0 : (t188 == 0) = true := beq_iff_eq.mpr c42
      have c42b1 : (t188 != 0) = false := bne_eq_false_iff_eq.mpr c42
      clear c42
      replace H := Option.bind_eq_some_iff.mp H
      obtain ⟨⟨t190, t191⟩, A430, H⟩ := H
      (try dsimp only at H)
      have A43 := mk_ A430
      clear A430
      replace H := Option.bind_eq_some_iff.mp H
      obtain ⟨⟨t192, t195⟩, A440, H⟩ := H
      (try dsimp only at H)
      have A44 := mk_ A440
      clear A440
      by_cases c45 : x6_1.length < 4398046511104
      rotate_left
      ·rw [if_neg c45] at H
       exact absurd H (by simp)
      rw [if_pos c45] at H
      have LMc45 := mk_ c45
      clear c45
      obtain ⟨y196, hy196⟩ : ∃ y_ : List (S34), y_ = (x6_1 ++ [(⟨(wrap64 (10 + x7_1)), t192⟩ : S34)]) := ⟨_, rfl⟩
      replace H : (spec_l20Net.l0 k2 a1 (wrap64 (1 + t158)) y196 (wrap64 (x7_1 + 1)) s0_0 t191) = some (r1, r2) := by first | (rw [hy196]; with_reducible exact H) | (have H2_ := (Option.bind_some _ _).symm.trans H; rw [hy196]; with_reducible exact H2_) | (have H2_ := (Option.bind_some _ _).symm.trans H; with_reducible exact H2_) | with_reducible exact H | (rw [hy196]; exact H) | exact H
      have Ny196 := mk_ hy196
      clear hy196
      have H' := mk_ H
      clear H
      try go_wp2_with (first | ((with_reducible refine gate_callee (f := 46) rfl ?_); refine goesL_ (some 69) rfl rfl Try.func46 (by kernel_rfl) rfl #[.pointer (some ⟨g, 0, none⟩), .int .i64 4] rfl (by (try simp only [lm_, lo_, ln_]); try rfl) ?_; (with_reducible refine (spec_l20Rd_pick.calls k2 g s0_0 x1001_2 4 t188 t189 w0 _ ?side1 ?side2 A41.out).mono ?_); (case side1 => repeat (first | (with_reducible first | exact HI0.out | apply IsS107.alloc | apply IsS107.drewN | apply IsS107.drew | apply IsS107.set_1 | refine IsS107.far ?_ NB0_169.out _) | exact HI0.out)); (case side2 => repeat (first | (with_reducible first | exact HB.out | apply na_ | apply nn_ | apply nw_ | refine bs_ ?_ (IsS107.ge HI0.out) | refine bs_ ?_ GE169.out) | exact HB.out)); rintro e w46 ⟨rfl, hi, hb, hk⟩; refine ⟨_, rfl, ?_⟩; replace HO_6 := mk_ (Kd.N_mono (Kd.N_keep (Kd.N_mono (ok := fun k_ => (((w.heap.size ≤ k_)) ∧ (some k_ ≠ (u170001 : Value).ownBlock ∧ (k_ ≠ gb169 ∧ k_ ≠ g)))) (by (with_reducible repeat (first | apply Kd.N_alloc | apply Kd.N_drewN | apply Kd.N_drew)); exact HO_6.out) (fun k_ hk_ => (⟨hk_, hk_.2.2.2⟩ : _ ∧ k_ ≠ g))) hk (fun _ h => h.2)) (fun _ h => h.1)); replace HO_170001 := mk_ (Kd.R_mono (Kd.R_keep (IsS107.apart (show IsS107 w0 _ g s0_0 x1001_2 from by repeat (first | (with_reducible first | exact HI0.out | apply IsS107.alloc | apply IsS107.drewN | apply IsS107.drew | apply IsS107.set_1 | refine IsS107.far ?_ NB0_169.out _) | exact HI0.out)) (Kd.ur_ HO_170001.out) (by decide)) hk (fun _ h => h.2)) (fun _ h => h.1)); replace BK169 := mk_ (KeepBut.blk hk (g' := gb169) (o := .cells #[.int .i64 (wrap64 (10 + x7_1)), u170001] 34 (0, 0)) (u_ BK169.out) NB169_0.out (by simp)); replace HK := mk_ (KeepBut.trans (by repeat (first | (with_reducible first | exact HK.out | apply KeepBut.set_ | apply keep_drewN | apply keep_drew | apply keep_alloc | refine keep_far ?_ GW169.out _) | exact HK.out)) hk (.inl rfl)); replace HB := mk_ (hb); replace HI0 := mk_ (hi)))
      have n0_ := mk_ (Kd.N_drew HO_6.out)
      have n1_ := mk_ (Kd.R_drew HO_170001.out)
      have n2_ := mk_ (blk_drew BK169.out)
      have n3_ := mk_ (IsS107.drew HI0.out)
      have n4_ := mk_ (keep_drew HK.out)
      have n5_ := mk_ (below_drew1 HB.out)
      clear HO_6
      clear HO_170001
      clear BK169
      clear HI0
      clear HK
      clear HB
      have HO_6 := n0_
      have HO_170001 := n1_
      have BK169 := n2_
      have HI0 := n3_
      have HK := n4_
      have HB := n5_
      clear n0_ n1_ n2_ n3_ n4_ n5_
      refine start_ (n := 13) (S := fun w' => w'.cell? ⟨gb169, 0, none⟩ = some (.int .i64 (wrap64 (10 + x7_1))) ∧ w'.cell? ⟨gb169, 1, none⟩ = some (u170001)) (ds := [12]) #[F_, F_, F_, F_, F_, F_, F_, F_, F_, F_, F_, F_, F_] (by kernel_rfl) rfl rfl ⟨(blk_cell BK169.out 0).trans rfl, (blk_cell BK169.out 1).trans rfl⟩ (fun hHeld => ?_); refine with_tabW spec_l20Net.tab18 spec_l20Net.bits18 (fun HT_ HW_ => ?_)
      generalize w46.drew = w47 at HO_6 HO_170001 BK169 HI0 HK HB hHeld ⊢
      refine pure_ (i := 0) (N := some 72) (v := ?_) (a' := ?_) #[T_, F_, F_, F_, F_, F_, F_, F_, F_, F_, F_, F_, F_] rfl rfl (any_of HT_.out (by kernel_rfl)) (fun _ _ _ h => h) (Or.inl ⟨by rfl, ?_⟩) ?_ ?_
      rotate_left
      ·intro w'
       go_simp
       with_reducible rfl
      rotate_left
      ·simp only [Act.put, la_, lz_, ls_, i64_w, i32_w]
       rfl
      refine pure_ (i := 2) (N := some 74) (v := ?_) (a' := ?_) #[T_, F_, T_, F_, F_, F_, F_, F_, F_, F_, F_, F_, F_] rfl rfl (any_of HT_.out (by kernel_rfl)) (fun _ _ _ h => h) (Or.inl ⟨by rfl, ?_⟩) ?_ ?_
      rotate_left
      ·intro w'
       go_simp
       with_reducible rfl
      rotate_left
      ·simp only [Act.put, la_, lz_, ls_, i64_w, i32_w]
       rfl
      refine pure_ (i := 3) (N := some 75) (v := ?_) (a' := ?_) #[T_, F_, T_, T_, F_, F_, F_, F_, F_, F_, F_, F_, F_] rfl rfl (any_of HT_.out (by kernel_rfl)) (fun _ _ _ h => h) (Or.inl ⟨by rfl, ?_⟩) ?_ ?_
      rotate_left
      ·intro w'
       go_simp
       with_reducible rfl
      rotate_left
      ·simp only [Act.put, la_, lz_, ls_, i64_w, i32_w]
       rfl
      refine take_ (i := 1) (N := some 73) (v := ?_) (a' := ?_) #[T_, T_, T_, T_, F_, F_, F_, F_, F_, F_, F_, F_, F_] rfl rfl (take_ofW HT_.out HW_.out (by kernel_rfl)) (fun _ _ _ h => h) (Or.inl ⟨by rfl, ?_⟩) hHeld ?_ ?_
      rotate_left
      ·rintro w' ⟨s0, s1⟩
       go_simp
       with_reducible rfl
      rotate_left
      ·simp only [Act.put, la_, lz_, ls_, i64_w, i32_w]
       rfl
      refine one_ (i := 4) (N := some 76) #[T_, T_, T_, T_, T_, F_, F_, F_, F_, F_, F_, F_, F_] rfl rfl (one_of HT_.out (by kernel_rfl)) (by decide) (fun K hK => ?_)
      refine goes_ Try.func46 (by kernel_rfl) rfl #[.pointer (some ⟨g, 0, none⟩), .int .i64 (wrap64 (1 + t158))] (by rfl) rfl rfl (by (try simp only [lm_, lo_, ln_]); try rfl) ?_
      with_reducible refine (spec_l20Rd_pick.calls k2 g s0_0 t189 (wrap64 (1 + t158)) t190 t191 w0 _ ?side1 ?side2 A43.out).mono ?_
      (case side1 => repeat (first | (with_reducible first | exact HI0.out | apply IsS107.alloc | apply IsS107.drewN | apply IsS107.drew | apply IsS107.set_1 | refine IsS107.far ?_ NB0_169.out _) | exact HI0.out))
      (case side2 => repeat (first | (with_reducible first | exact HB.out | apply na_ | apply nn_ | apply nw_ | refine bs_ ?_ (IsS107.ge HI0.out) | refine bs_ ?_ GE169.out) | exact HB.out))
      rintro e w48 ⟨rfl, hi, hb, hk⟩
      refine ⟨_, rfl, ?_⟩
      have n0_ := mk_ (Kd.N_mono (Kd.N_keep (Kd.N_mono (ok := fun k_ => (((w.heap.size ≤ k_)) ∧ (some k_ ≠ (u170001 : Value).ownBlock ∧ (k_ ≠ gb169 ∧ k_ ≠ g)))) (by (with_reducible repeat (first | apply Kd.N_alloc | apply Kd.N_drewN | apply Kd.N_drew)); exact HO_6.out) (fun k_ hk_ => (⟨hk_, hk_.2.2.2⟩ : _ ∧ k_ ≠ g))) hk (fun _ h => h.2)) (fun _ h => h.1))
      have n1_ := mk_ (Kd.R_mono (Kd.R_keep (IsS107.apart (show IsS107 w0 _ g s0_0 t189 from by repeat (first | (with_reducible first | exact HI0.out | apply IsS107.alloc | apply IsS107.drewN | apply IsS107.drew | apply IsS107.set_1 | refine IsS107.far ?_ NB0_169.out _) | exact HI0.out)) (Kd.ur_ HO_170001.out) (by decide)) hk (fun _ h => h.2)) (fun _ h => h.1))
      have n2_ := mk_ (KeepBut.blk hk (g' := gb169) (o := .cells #[.int .i64 (wrap64 (10 + x7_1)), u170001] 34 (0, 0)) (u_ BK169.out) NB169_0.out (by simp))
      have n3_ := mk_ (KeepBut.trans (by repeat (first | (with_reducible first | exact HK.out | apply KeepBut.set_ | apply keep_drewN | apply keep_drew | apply keep_alloc | refine keep_far ?_ GW169.out _) | exact HK.out)) hk (.inl rfl))
      have n4_ := mk_ (hb)
      have n5_ := mk_ (hi)
      clear HO_6
      clear HO_170001
      clear BK169
      clear HK
      clear HB
      clear HI0
      have HO_6 := n0_
      have HO_170001 := n1_
      have BK169 := n2_
      have HK := n3_
      have HB := n4_
      have HI0 := n5_
      clear n0_ n1_ n2_ n3_ n4_ n5_
      (try clear hb)
      (try clear hb2)
      (try clear hk)
      (try clear hi)
      obtain ⟨Ao49, co49, eo49⟩ := Kd.R_slice HO_170001.out
      (first | subst eo49 | (injection eo49 with f1_ f2_ f3_; have f4_ := f1_.symm; have f5_ := f3_.symm; clear f1_ f2_ f3_; subst f4_; subst f5_))
      refine hK.out _ _ ⟨(blk_cell BK169.out 0).trans rfl, (blk_cell BK169.out 1).trans rfl⟩ (fun hHeld => ?_)
      clear hK K
      refine norm_ (a' := ?_) ?_ ?_
      rotate_left
      ·show Act.put _ (some 76) _ = _
       simp only [Act.put, la_, lz_, ls_, i64_w, i32_w]
       rfl
      refine pure_ (i := 5) (N := some 77) (v := ?_) (a' := ?_) #[T_, T_, T_, T_, T_, T_, F_, F_, F_, F_, F_, F_, F_] rfl rfl (any_of HT_.out (by kernel_rfl)) (fun _ _ _ h => h) (Or.inl ⟨by rfl, ?_⟩) ?_ ?_
      rotate_left
      ·intro w'
       go_simp
       with_reducible rfl
      rotate_left
      ·simp only [Act.put, la_, lz_, ls_, i64_w, i32_w]
       rfl
      refine pure_ (i := 6) (N := some 78) (v := ?_) (a' := ?_) #[T_, T_, T_, T_, T_, T_, T_, F_, F_, F_, F_, F_, F_] rfl rfl (any_of HT_.out (by kernel_rfl)) (fun _ _ _ h => h) (Or.inl ⟨by rfl, ?_⟩) ?_ ?_
      rotate_left
      ·intro w'
       go_simp
       with_reducible rfl
      rotate_left
      ·simp only [Act.put, la_, lz_, ls_, i64_w, i32_w]
       rfl
      refine one_ (i := 7) (N := some 79) #[T_, T_, T_, T_, T_, T_, T_, T_, F_, F_, F_, F_, F_] rfl rfl (one_of HT_.out (by kernel_rfl)) (by decide) (fun K hK => ?_)
      refine goes_ Try.func89 (by kernel_rfl) rfl #[.slice Ao49 x170001_2.length co49, .agg #[.int .i64 0, .int .i64 0, .int .i64 (wrap64 (10 + t190)), .int .i64 8]] (by rfl) rfl rfl (by (try simp only [lm_, lo_, ln_]); try rfl) ?_
      with_reducible refine (spec_RoutePut.calls k2 _ _ x170001_2 0 0 (wrap64 (10 + t190)) 8 t192 t195 _ ?side1 ?side2 A44.out).mono ?_
      (case side1 => repeat (first | exact (Kd.R_reads' HO_170001.out).2.2 | (with_reducible refine Kd.C_alloc ?_ _) | (with_reducible refine Kd.C_drewN ?_ _) | (with_reducible refine Kd.C_drew ?_)))
      (case side2 => exact (Kd.R_reads' HO_170001.out).2.1)
      rintro e w50 ⟨v193, rfl, ho0, hb⟩
      refine ⟨_, rfl, ?_⟩
      have n0_ := mk_ (Kd.N_elder' (by (with_reducible repeat (first | apply Kd.N_alloc | apply Kd.N_drewN | apply Kd.N_drew)); exact HO_6.out) (Kd.R_base ho0) hb)
      have n1_ := mk_ (Kd.R_elder' (Kd.ur_ HO_170001.out) (Kd.R_base ho0) hb)
      have n2_ := mk_ (Kd.R_lower (Kd.R_new' (Kd.R_newM (M := fun k_ => (w.heap.size ≤ k_)) ho0 (keep_size (w := w) (g := g) (row := none) (by repeat (first | (with_reducible first | exact HK.out | apply KeepBut.set_ | apply keep_drewN | apply keep_drew | apply keep_alloc | refine keep_far ?_ GW169.out _) | exact HK.out))) (fun k_ h_ => h_)) (Kd.R_lt (Kd.ur_ HO_170001.out))) (keep_size (w := w) (g := g) (row := none) (by repeat (first | (with_reducible first | exact HK.out | apply KeepBut.set_ | apply keep_drewN | apply keep_drew | apply keep_alloc | refine keep_far ?_ GW169.out _) | exact HK.out))))
      have n3_ := mk_ (blk_below (u_ BK169.out) hb)
      have n4_ := mk_ (IsS107.below (by repeat (first | (with_reducible first | exact HI0.out | apply IsS107.alloc | apply IsS107.drewN | apply IsS107.drew | apply IsS107.set_1 | refine IsS107.far ?_ NB0_169.out _) | exact HI0.out)) hb)
      have n5_ := mk_ (KeepBut.trans (by repeat (first | (with_reducible first | exact HK.out | apply KeepBut.set_ | apply keep_drewN | apply keep_drew | apply keep_alloc | refine keep_far ?_ GW169.out _) | exact HK.out)) (KeepBut.of_below hb g none) (.inl rfl))
      have n6_ := mk_ (below_step (by repeat (first | (with_reducible first | exact HB.out | apply na_ | apply nn_ | apply nw_ | refine bs_ ?_ (IsS107.ge HI0.out) | refine bs_ ?_ GE169.out) | exact HB.out)) hb)
      clear HO_6
      clear HO_170001
      clear BK169
      clear HI0
      clear HK
      clear HB
      have HO_6 := n0_
      have HO_170001 := n1_
      have HO194 := n2_
      have BK169 := n3_
      have HI0 := n4_
      have HK := n5_
      have HB := n6_
      clear n0_ n1_ n2_ n3_ n4_ n5_ n6_
      (try clear hb)
      (try clear hb2)
      (try clear hk)
      (try clear hi)
      (try clear ho0)
      obtain ⟨Ao51, co51, eo51⟩ := Kd.R_slice HO194.out
      (first | subst eo51 | (injection eo51 with f1_ f2_ f3_; have f4_ := f1_.symm; have f5_ := f3_.symm; clear f1_ f2_ f3_; subst f4_; subst f5_))
      refine hK.out _ _ ⟨(blk_cell BK169.out 0).trans rfl, (blk_cell BK169.out 1).trans rfl⟩ (fun hHeld => ?_)
      clear hK K
      refine norm_ (a' := ?_) ?_ ?_
      rotate_left
      ·show Act.put _ (some 79) _ = _
       simp only [Act.put, la_, lz_, ls_, i64_w, i32_w]
       rfl
      refine pure_ (i := 8) (N := some 71) (v := ?_) (a' := ?_) #[T_, T_, T_, T_, T_, T_, T_, T_, T_, F_, F_, F_, F_] rfl rfl (any_of HT_.out (by kernel_rfl)) (fun _ _ _ h => h) (Or.inl ⟨by rfl, ?_⟩) ?_ ?_
      rotate_left
      ·intro w'
       go_simp
       with_reducible rfl
      rotate_left
      ·simp only [Act.put, la_, lz_, ls_, i64_w, i32_w]
       rfl
      refine pure_ (i := 9) (N := some 80) (v := ?_) (a' := ?_) #[T_, T_, T_, T_, T_, T_, T_, T_, T_, T_, F_, F_, F_] rfl rfl (any_of HT_.out (by kernel_rfl)) (fun _ _ _ h => h) (Or.inl ⟨by rfl, ?_⟩) ?_ ?_
      rotate_left
      ·intro w'
       go_simp
       with_reducible rfl
      rotate_left
      ·simp only [Act.put, la_, lz_, ls_, i64_w, i32_w]
       rfl
      refine pure_ (i := 10) (N := some 81) (v := ?_) (a' := ?_) #[T_, T_, T_, T_, T_, T_, T_, T_, T_, T_, T_, F_, F_] rfl rfl (any_of HT_.out (by kernel_rfl)) (fun _ _ _ h => h) (Or.inl ⟨by rfl, ?_⟩) ?_ ?_
      rotate_left
      ·intro w'
       go_simp
       with_reducible rfl
      rotate_left
      ·simp only [Act.put, la_, lz_, ls_, i64_w, i32_w]
       rfl
      refine pure_ (i := 11) (N := some 82) (v := ?_) (a' := ?_) #[T_, T_, T_, T_, T_, T_, T_, T_, T_, T_, T_, T_, F_] rfl rfl (any_of HT_.out (by kernel_rfl)) (fun _ _ _ h => h) (Or.inl ⟨by rfl, ?_⟩) ?_ ?_
      rotate_left
      ·intro w'
       go_simp
       with_reducible rfl
      rotate_left
      ·simp only [Act.put, la_, lz_, ls_, i64_w, i32_w]
       rfl
      refine last_ (i := 12) (N := none) #[T_, T_, T_, T_, T_, T_, T_, T_, T_, T_, T_, T_, T_] rfl rfl (one_of HT_.out (by kernel_rfl)) (by decide) (fun K hK => ?_)
      have hs52 : w50.cell? ⟨gb169, 1, none⟩ = some (.slice Ao49 x170001_2.length co49) := (blk_cell BK169.out 1).trans rfl
      have hfs52 := blk_frozen BK169.out 1
      refine skip_ (w1 := ?_) (by rfl) rfl ?_ ?_
      rotate_left
      ·go_simp
       rfl
      refine hK.out _ _ ?_
      clear hK K
      refine done_ (done_of HT_.out (by kernel_rfl)) ?_
      have n0_ : Aside0 (Kd.N k34 34 (w50.setCell ⟨gb169, 1, none⟩ (.slice Ao51 t192.length co51)) w.heap.size (fun k_ => (w.heap.size ≤ k_) ∧ some k_ ≠ (.slice Ao49 x170001_2.length co49 : Value).ownBlock ∧ some k_ ≠ (.slice Ao51 t192.length co51 : Value).ownBlock ∧ k_ ≠ gb169 ∧ k_ ≠ g) u6 x6_1) := ⟨by (with_reducible repeat (first | apply Kd.N_alloc | apply Kd.N_drewN | apply Kd.N_drew)); exact Kd.N_mono (Kd.N_far (p := ⟨gb169, 1, none⟩) (Kd.N_mono HO_6.out (fun k_ hk => (⟨hk, hk.1.2.2.1⟩ : _ ∧ k_ ≠ gb169))) (fun _ hk => hk.2) (.slice Ao51 t192.length co51)) (fun _ hk => by first | exact ⟨hk.1.1.1, ⟨hk.1.1.2.1, ⟨hk.1.2, ⟨hk.1.1.2.2.1, hk.1.1.2.2.2⟩⟩⟩⟩ | exact hk.1 | exact hk | exact ⟨hk.1, hk.2⟩ | exact ⟨.inr hk.1, hk.2⟩ | simp only [hk, ne_eq, not_false_eq_true, and_self])⟩
      have n1_ : Aside0 (Kd.R k29 29 (w50.setCell ⟨gb169, 1, none⟩ (.slice Ao51 t192.length co51)) w.heap.size (fun k_ => (w.heap.size ≤ k_) ∧ some k_ ≠ (.slice Ao51 t192.length co51 : Value).ownBlock) (.slice Ao49 x170001_2.length co49) x170001_2) := ⟨by (with_reducible repeat (first | apply Kd.R_alloc | apply Kd.R_drewN | apply Kd.R_drew)); exact Kd.R_mono (Kd.R_far (p := ⟨gb169, 1, none⟩) (Kd.R_types HO_170001.out BK169.out (by decide)) (fun _ hk => hk.2) (.slice Ao51 t192.length co51)) (fun _ hk => by first | exact ⟨hk.1.1, hk.1.2⟩ | exact hk.1 | exact hk | exact ⟨hk.1, hk.2⟩ | exact ⟨.inr hk.1, hk.2⟩ | simp only [hk, ne_eq, not_false_eq_true, and_self])⟩
      have n2_ : Aside0 (Kd.R k29 29 (w50.setCell ⟨gb169, 1, none⟩ (.slice Ao51 t192.length co51)) w.heap.size (fun k_ => (w.heap.size ≤ k_) ∧ some k_ ≠ (.slice Ao49 x170001_2.length co49 : Value).ownBlock) (.slice Ao51 t192.length co51) t192) := ⟨by (with_reducible repeat (first | apply Kd.R_alloc | apply Kd.R_drewN | apply Kd.R_drew)); exact Kd.R_mono (Kd.R_far (p := ⟨gb169, 1, none⟩) (Kd.R_types HO194.out BK169.out (by decide)) (fun _ hk => hk.2) (.slice Ao51 t192.length co51)) (fun _ hk => by first | exact ⟨hk.1.1.1, hk.1.2⟩ | exact hk.1 | exact hk | exact ⟨hk.1, hk.2⟩ | exact ⟨.inr hk.1, hk.2⟩ | simp only [hk, ne_eq, not_false_eq_true, and_self])⟩
      have n3_ : Aside0 ((w50.setCell ⟨gb169, 1, none⟩ (.slice Ao51 t192.length co51)).heap[gb169]? = some (.cells #[.int .i64 (wrap64 (10 + x7_1)), .slice Ao51 t192.length co51] 34 (0, 0))) := ⟨by (with_reducible repeat (first | refine bn_ ?_ _ | refine bw_ ?_ | refine ba_ ?_ _)); refine blk_put (cs := #[.int .i64 (wrap64 (10 + x7_1)), .slice Ao49 x170001_2.length co49]) ?_ 1 _ rfl; (with_reducible repeat (first | refine bn_ ?_ _ | refine bw_ ?_ | refine ba_ ?_ _)); exact BK169.out⟩
      have n4_ : Aside0 (IsS107 w0 (w50.setCell ⟨gb169, 1, none⟩ (.slice Ao51 t192.length co51)) g s0_0 t191) := ⟨by repeat (first | (with_reducible first | exact HI0.out | apply IsS107.alloc | apply IsS107.drewN | apply IsS107.drew | apply IsS107.set_1 | refine IsS107.far ?_ NB0_169.out _) | exact HI0.out)⟩
      have n5_ : Aside0 (KeepBut w (w50.setCell ⟨gb169, 1, none⟩ (.slice Ao51 t192.length co51)) g none) := ⟨by repeat (first | (with_reducible first | exact HK.out | apply KeepBut.set_ | apply keep_drewN | apply keep_drew | apply keep_alloc | refine keep_far ?_ GW169.out _) | exact HK.out)⟩
      have n6_ : Aside0 (Below w0.heap.size w0 (w50.setCell ⟨gb169, 1, none⟩ (.slice Ao51 t192.length co51))) := ⟨by repeat (first | (with_reducible first | exact HB.out | apply na_ | apply nn_ | apply nw_ | refine bs_ ?_ (IsS107.ge HI0.out) | refine bs_ ?_ GE169.out) | exact HB.out)⟩
      (try clear HO_6)
      (try clear HO_170001)
      (try clear HO194)
      (try clear BK169)
      (try clear HI0)
      (try clear HK)
      (try clear HB)
      generalize (w50.setCell ⟨gb169, 1, none⟩ (.slice Ao51 t192.length co51)) = w53 at n0_ n1_ n2_ n3_ n4_ n5_ n6_ ⊢
      have HO_6 := n0_
      have HO_170001 := n1_
      have HO194 := n2_
      have BK169 := n3_
      have HI0 := n4_
      have HK := n5_
      have HB := n6_
      clear n0_ n1_ n2_ n3_ n4_ n5_ n6_
      have hnb54 := NB169_0.out
      have hnc54 := NB0_169.out
      obtain ⟨_, _, _, _⟩ := cells2_ BK169.out
      try go_wp2_with (first | ((with_reducible refine gate_builtin (b := .append) (xs := #[.tmp 83, .tmp 85]) rfl ?_); at_builtin; refine Kd.N_append k34 w.heap.size rfl (.tmp 83) (.tmp 85) 23 34 (.agg #[(.int .i64 0), (.slice none 0 0)]) 32 rfl Try.underlying23 info34 rfl (by decide) (by omega) u6 x6_1 (⟨(wrap64 (10 + x7_1)), t192⟩ : S34) [.int .i64 (wrap64 (10 + x7_1)), .slice Ao51 t192.length co51] (fun k_ => (w.heap.size ≤ k_) ∧ some k_ ≠ (.slice Ao49 x170001_2.length co49 : Value).ownBlock ∧ k_ ≠ gb169 ∧ k_ ≠ g) (fun k_ => ((fun k_ => (w.heap.size ≤ k_) ∧ some k_ ≠ (.slice Ao49 x170001_2.length co49 : Value).ownBlock ∧ k_ ≠ gb169 ∧ k_ ≠ g)) k_ ∧ some k_ ≠ (u6 : Value).ownBlock) rfl rfl ?aP (fun _ hk => hk) ?aF ?aO (Below.refl _ _) ?aS ?aL ?_; (case aP => exact (k34_mkF _ _ (⟨(wrap64 (10 + x7_1)), t192⟩ : S34) (Kd.R_reads' (Kd.R_mono (ok' := (fun k_ => ((fun k_ => (w.heap.size ≤ k_) ∧ some k_ ≠ (.slice Ao49 x170001_2.length co49 : Value).ownBlock ∧ k_ ≠ gb169 ∧ k_ ≠ g)) k_ ∧ some k_ ≠ (u6 : Value).ownBlock)) (IsS107.apart HI0.out (Kd.R_types (Kd.R_apart' (HO194.out) (Kd.N_typed HO_6.out) (by decide)) BK169.out (by decide)) (by decide)) (fun k_ hk => by first | exact ⟨⟨hk.1.1.1.1, ⟨hk.1.1.1.2, ⟨hk.1.2, hk.2⟩⟩⟩, hk.1.1.2⟩ | exact hk.1 | exact hk | exact ⟨hk.1, hk.2⟩ | exact ⟨.inr hk.1, hk.2⟩ | simp only [hk, ne_eq, not_false_eq_true, and_self]))).2.1 (Kd.R_F (Kd.R_mono (ok' := (fun k_ => ((fun k_ => (w.heap.size ≤ k_) ∧ some k_ ≠ (.slice Ao49 x170001_2.length co49 : Value).ownBlock ∧ k_ ≠ gb169 ∧ k_ ≠ g)) k_ ∧ some k_ ≠ (u6 : Value).ownBlock)) (IsS107.apart HI0.out (Kd.R_types (Kd.R_apart' (HO194.out) (Kd.N_typed HO_6.out) (by decide)) BK169.out (by decide)) (by decide)) (fun k_ hk => by first | exact ⟨⟨hk.1.1.1.1, ⟨hk.1.1.1.2, ⟨hk.1.2, hk.2⟩⟩⟩, hk.1.1.2⟩ | exact hk.1 | exact hk | exact ⟨hk.1, hk.2⟩ | exact ⟨.inr hk.1, hk.2⟩ | simp only [hk, ne_eq, not_false_eq_true, and_self]))))); (case aF => exact (fun k_ hk => ⟨(Nat.le_trans (keep_size (w := w) (g := g) (row := none) (by repeat (first | (with_reducible first | exact HK.out | apply KeepBut.set_ | apply keep_drewN | apply keep_drew | apply keep_alloc | refine keep_far ?_ GW169.out _) | exact HK.out))) hk), Kd.fresh' (Kd.R_lt (Kd.ur_ HO_170001.out)) k_ hk, Kd.freshB (g := gb169) (o := .cells #[.int .i64 (wrap64 (10 + x7_1)), .slice Ao51 t192.length co51] 34 (0, 0)) (u_ BK169.out) k_ hk, IsS107.fresh (by repeat (first | (with_reducible first | exact HI0.out | apply IsS107.alloc | apply IsS107.drewN | apply IsS107.drew | apply IsS107.set_1 | refine IsS107.far ?_ NB0_169.out _) | exact HI0.out)) k_ hk⟩)); (case aO => exact (by (with_reducible repeat (first | apply Kd.N_alloc | apply Kd.N_drewN | apply Kd.N_drew)); exact Kd.N_mono HO_6.out (fun _ hk => by first | exact ⟨hk.1, ⟨hk.2.1, ⟨hk.2.2.2.1, hk.2.2.2.2⟩⟩⟩ | exact hk.1 | exact hk | exact ⟨hk.1, hk.2⟩ | exact ⟨.inr hk.1, hk.2⟩ | simp only [hk, ne_eq, not_false_eq_true, and_self]))); (case aS => exact (keep_size (w := w) (g := g) (row := none) (by repeat (first | (with_reducible first | exact HK.out | apply KeepBut.set_ | apply keep_drewN | apply keep_drew | apply keep_alloc | refine keep_far ?_ GW169.out _) | exact HK.out)))); (case aL => have := LMc45.out; omega); intro v197 w56 ho hb hg hat; rw [← Ny196.out] at ho; replace HO_170001 := mk_ (Kd.R_over' (Kd.ur_ HO_170001.out) (Kd.N_typed (by (with_reducible repeat (first | apply Kd.N_alloc | apply Kd.N_drewN | apply Kd.N_drew)); exact HO_6.out)) (by decide) hg); replace BK169 := mk_ (blk_grown (g := gb169) (o := .cells #[.int .i64 (wrap64 (10 + x7_1)), .slice Ao51 t192.length co51] 34 (0, 0)) (u_ BK169.out) hg (Kd.N_away HO_6.out (fun _ hk => hk.2.2.2.1))); have n2_ := mk_ (IsS107.grown (by repeat (first | (with_reducible first | exact HI0.out | apply IsS107.alloc | apply IsS107.drewN | apply IsS107.drew | apply IsS107.set_1 | refine IsS107.far ?_ NB0_169.out _) | exact HI0.out)) hg (IsS107.own_neN HI0.out HO_6.out (by decide))); replace HB := mk_ (below_weaken (by repeat (first | (with_reducible first | exact HB.out | apply na_ | apply nn_ | apply nw_ | refine bs_ ?_ (IsS107.ge HI0.out) | refine bs_ ?_ GE169.out) | exact HB.out)) HL.out hb); replace HK := mk_ (KeepBut.trans (by repeat (first | (with_reducible first | exact HK.out | apply KeepBut.set_ | apply keep_drewN | apply keep_drew | apply keep_alloc | refine keep_far ?_ GW169.out _) | exact HK.out)) (KeepBut.of_grown hg g) (Kd.N_base2 HO_6.out)); have HO198 := mk_ (ho); replace HI0 := n2_; clear n2_; clear HO_6 HO194; clear ho hb hg hat))
      go_roundg k2
      case measure => have := HK1.out; have := HK2.out; omega
      case rel => exact ⟨(y196), (wrap64 (x7_1 + 1)), (t191), (by first | rfl | (simp; done) | (simp [*]; done)), H', ⟨by have := HK1.out; have := HK2.out; omega⟩, ⟨by (with_reducible repeat (first | apply Kd.N_alloc | apply Kd.N_drewN | apply Kd.N_drew)); exact Kd.N_mono HO198.out (fun _ hk => by first | exact ⟨hk.1, hk.2.2.2⟩ | exact hk.1 | exact hk | exact ⟨hk.1, hk.2⟩ | exact ⟨.inr hk.1, hk.2⟩ | simp only [hk, ne_eq, not_false_eq_true, and_self])⟩, ⟨by repeat (first | (with_reducible first | exact HI0.out | apply IsS107.alloc | apply IsS107.drewN | apply IsS107.drew | apply IsS107.set_1 | refine IsS107.far ?_ NB0_169.out _) | exact HI0.out)⟩, ⟨by repeat (first | (with_reducible first | exact HK.out | apply KeepBut.set_ | apply keep_drewN | apply keep_drew | apply keep_alloc | refine keep_far ?_ GW169.out _) | exact HK.out)⟩, ⟨by repeat (first | (with_reducible first | exact HB.out | apply na_ | apply nn_ | apply nw_ | refine bs_ ?_ (IsS107.ge HI0.out) | refine bs_ ?_ GE169.out) | exact HB.out)⟩⟩
     rw [if_pos c11] at H
     have c11b0 : decide (x9_2 < (wrap64 (1 + t158))) = true := decide_eq_true c11
     clear c11
     have HC12 := mk_ H
     clear H
     go_upto_region 10 with (fail)
     go_cut [35] (fun v35 wc => ∃ (kq : Nat) (x35_11 : Bool) (x1001_11 : Int), v35 = .bool x35_11 ∧ Aside0 (spec_l20Net.j2 kq a1 (wrap64 (1 + t158)) x6_1 x7_1 x9_2 x35_11 s0_0 x1001_11 (wrap64 (10 + x7_1)) x170001_2 = some (r1, r2)) ∧ Aside0 (kq ≤ k2) ∧ Aside0 (Kd.N k34 34 wc w.heap.size (fun k_ => (w.heap.size ≤ k_) ∧ some k_ ≠ (u170001 : Value).ownBlock ∧ k_ ≠ gb169 ∧ k_ ≠ g) u6 x6_1) ∧ Aside0 (Kd.R k29 29 wc w.heap.size (fun k_ => (w.heap.size ≤ k_)) u170001 x170001_2) ∧ Aside0 (wc.heap[gb169]? = some (.cells #[.int .i64 (wrap64 (10 + x7_1)), u170001] 34 (0, 0))) ∧ Aside0 (IsS107 w0 wc g s0_0 x1001_11) ∧ Aside0 (KeepBut w wc g none) ∧ Aside0 (Below w0.heap.size w0 wc))
     case first =>
      have H := HC12.out
      clear HC12
      by_cases c13 : x9_2 = x7_1
      ·rw [if_pos c13] at H
       have c13b0 : (x9_2 == x7_1) = true := beq_iff_eq.mpr c13
       have c13b1 : (x9_2 != x7_1) = false := bne_eq_false_iff_eq.mpr c13
       clear c13
       (first | rw [c13b0] | (simp only [i64_w, i32_w]; rw [c13b0]) | skip)
       have H' := mk_ H
       clear H
       go_wp2
       go_meet
       case rel => exact ⟨_, (false), (x1001_2), (by first | rfl | (simp; done) | (simp [*]; done)), H', ⟨by have := HK1.out; have := HK2.out; first | omega | exact Nat.le_refl _⟩, ⟨by (with_reducible repeat (first | apply Kd.N_alloc | apply Kd.N_drewN | apply Kd.N_drew)); exact HO_6.out⟩, ⟨Kd.ur_ HO_170001.out⟩, ⟨u_ BK169.out⟩, ⟨by repeat (first | (with_reducible first | exact HI0.out | apply IsS107.alloc | apply IsS107.drewN | apply IsS107.drew | apply IsS107.set_1 | refine IsS107.far ?_ NB0_169.out _) | exact HI0.out)⟩, ⟨by repeat (first | (with_reducible first | exact HK.out | apply KeepBut.set_ | apply keep_drewN | apply keep_drew | apply keep_alloc | refine keep_far ?_ GW169.out _) | exact HK.out)⟩, ⟨by repeat (first | (with_reducible first | exact HB.out | apply na_ | apply nn_ | apply nw_ | refine bs_ ?_ (IsS107.ge HI0.out) | refine bs_ ?_ GE169.out) | exact HB.out)⟩⟩
      rw [if_neg c13] at H
      have c13b0 : (x9_2 == x7_1) = false := beq_eq_false_iff_ne.mpr c13
      have c13b1 : (x9_2 != x7_1) = true := bne_iff_ne.mpr c13
      (first | rw [c13b0] | (simp only [i64_w, i32_w]; rw [c13b0]) | skip)
      replace H := Option.bind_eq_some_iff.mp H
      obtain ⟨⟨t170, t171⟩, A140, H⟩ := H
      (try dsimp only at H)
      have A14 := mk_ A140
      clear A140
      have H' := mk_ H
      clear H
      go_wp2_with (first | (go_at_call 46; (with_reducible refine (spec_l20Rd_pick.calls k2 g s0_0 x1001_2 12 t170 t171 w0 _ ?side1 ?side2 A14.out).mono ?_); (case side1 => repeat (first | (with_reducible first | exact HI0.out | apply IsS107.alloc | apply IsS107.drewN | apply IsS107.drew | apply IsS107.set_1 | refine IsS107.far ?_ NB0_169.out _) | exact HI0.out)); (case side2 => repeat (first | (with_reducible first | exact HB.out | apply na_ | apply nn_ | apply nw_ | refine bs_ ?_ (IsS107.ge HI0.out) | refine bs_ ?_ GE169.out) | exact HB.out)); rintro e w15 ⟨rfl, hi, hb, hk⟩; replace HO_6 := mk_ (Kd.N_mono (Kd.N_keep (Kd.N_mono (ok := fun k_ => (((w.heap.size ≤ k_)) ∧ (some k_ ≠ (u170001 : Value).ownBlock ∧ (k_ ≠ gb169 ∧ k_ ≠ g)))) (by (with_reducible repeat (first | apply Kd.N_alloc | apply Kd.N_drewN | apply Kd.N_drew)); exact HO_6.out) (fun k_ hk_ => (⟨hk_, hk_.2.2.2⟩ : _ ∧ k_ ≠ g))) hk (fun _ h => h.2)) (fun _ h => h.1)); replace HO_170001 := mk_ (Kd.R_mono (Kd.R_keep (IsS107.apart (show IsS107 w0 _ g s0_0 x1001_2 from by repeat (first | (with_reducible first | exact HI0.out | apply IsS107.alloc | apply IsS107.drewN | apply IsS107.drew | apply IsS107.set_1 | refine IsS107.far ?_ NB0_169.out _) | exact HI0.out)) (Kd.ur_ HO_170001.out) (by decide)) hk (fun _ h => h.2)) (fun _ h => h.1)); replace BK169 := mk_ (KeepBut.blk hk (g' := gb169) (o := .cells #[.int .i64 (wrap64 (10 + x7_1)), u170001] 34 (0, 0)) (u_ BK169.out) NB169_0.out (by simp)); replace HK := mk_ (KeepBut.trans (by repeat (first | (with_reducible first | exact HK.out | apply KeepBut.set_ | apply keep_drewN | apply keep_drew | apply keep_alloc | refine keep_far ?_ GW169.out _) | exact HK.out)) hk (.inl rfl)); replace HB := mk_ (hb); replace HI0 := mk_ (hi)))
      go_meet
      case rel => exact ⟨_, (decide (t170 > 0)), (t171), (by first | rfl | (simp; done) | (simp [*]; done)), H', ⟨by have := HK1.out; have := HK2.out; first | omega | exact Nat.le_refl _⟩, ⟨by (with_reducible repeat (first | apply Kd.N_alloc | apply Kd.N_drewN | apply Kd.N_drew)); exact HO_6.out⟩, ⟨Kd.ur_ HO_170001.out⟩, ⟨u_ BK169.out⟩, ⟨by repeat (first | (with_reducible first | exact HI0.out | apply IsS107.alloc | apply IsS107.drewN | apply IsS107.drew | apply IsS107.set_1 | refine IsS107.far ?_ NB0_169.out _) | exact HI0.out)⟩, ⟨by repeat (first | (with_reducible first | exact HK.out | apply KeepBut.set_ | apply keep_drewN | apply keep_drew | apply keep_alloc | refine keep_far ?_ GW169.out _) | exact HK.out)⟩, ⟨by repeat (first | (with_reducible first | exact HB.out | apply na_ | apply nn_ | apply nw_ | refine bs_ ?_ (IsS107.ge HI0.out) | refine bs_ ?_ GE169.out) | exact HB.out)⟩⟩
     case rest =>
      clear HC12
      try clear c1
      try clear p2
      try clear c4
      try clear p6
      try clear c7
      try clear c7b0
      try clear c9
      try clear c11
      try clear c11b0
      try clear c13
      try clear c13b0
      try clear c13b1
      try clear hcz10_0
      try clear hcz10_1
      try clear hfz10_0
      try clear hfz10_1
      try clear p2
      try clear p6
      obtain ⟨kq, x35_11, x1001_11, rfl, HA, HJ11, HO_6, HO_170001, BK169, HI0, HK, HB⟩ := hcut
      cases kq with
      | zero => exact absurd HA.out (by simp [spec_l20Net.j2])
      | succ kj11 =>
       have H := HA.out
       clear HA
       simp only [spec_l20Net.j2] at H
       by_cases c16 : x35_11 = true
       rotate_left
       ·replace c16 := Bool.eq_false_iff.mpr c16
        subst c16
        rw [if_neg (show ¬ (false = true) by decide)] at H
        have H' := mk_ H
        clear H
        go_wp2
        go_roundg kj11
        case measure => have := HK1.out; have := HK2.out; have := HJ11.out; omega
        case rel => exact ⟨(wrap64 (x9_2 + 1)), (x1001_11), (x170001_2), (u170001), (by first | rfl | (simp; done) | (simp [*]; done)), H', ⟨by have := HK1.out; have := HK2.out; have := HJ11.out; omega⟩, ⟨by (with_reducible repeat (first | apply Kd.N_alloc | apply Kd.N_drewN | apply Kd.N_drew)); exact HO_6.out⟩, ⟨Kd.ur_ HO_170001.out⟩, ⟨u_ BK169.out⟩, ⟨by repeat (first | (with_reducible first | exact HI0.out | apply IsS107.alloc | apply IsS107.drewN | apply IsS107.drew | apply IsS107.set_1 | refine IsS107.far ?_ NB0_169.out _) | exact HI0.out)⟩, ⟨by repeat (first | (with_reducible first | exact HK.out | apply KeepBut.set_ | apply keep_drewN | apply keep_drew | apply keep_alloc | refine keep_far ?_ GW169.out _) | exact HK.out)⟩, ⟨by repeat (first | (with_reducible first | exact HB.out | apply na_ | apply nn_ | apply nw_ | refine bs_ ?_ (IsS107.ge HI0.out) | refine bs_ ?_ GE169.out) | exact HB.out)⟩⟩
       subst c16
       rw [if_pos rfl] at H
       have HC17 := mk_ H
       clear H
       go_upto_if 41 with (fail)
       go_cut [10] (fun v10 wc => ∃ (kq : Nat) (x10_16 : Int), v10 = .int .i64 x10_16 ∧ Aside0 (spec_l20Net.j3 kq a1 (wrap64 (1 + t158)) x6_1 x7_1 x9_2 x10_16 s0_0 x1001_11 (wrap64 (10 + x7_1)) x170001_2 = some (r1, r2)) ∧ Aside0 (kq ≤ kj11) ∧ Aside0 (Kd.N k34 34 wc w.heap.size (fun k_ => (w.heap.size ≤ k_) ∧ some k_ ≠ (u170001 : Value).ownBlock ∧ k_ ≠ gb169 ∧ k_ ≠ g) u6 x6_1) ∧ Aside0 (Kd.R k29 29 wc w.heap.size (fun k_ => (w.heap.size ≤ k_)) u170001 x170001_2) ∧ Aside0 (wc.heap[gb169]? = some (.cells #[.int .i64 (wrap64 (10 + x7_1)), u170001] 34 (0, 0))) ∧ Aside0 (IsS107 w0 wc g s0_0 x1001_11) ∧ Aside0 (KeepBut w wc g none) ∧ Aside0 (Below w0.heap.size w0 wc))
       case first =>
        have H := HC17.out
        clear HC17
        by_cases c18 : x9_2 < x7_1
        ·rw [if_pos c18] at H
         have c18b0 : decide (x9_2 < x7_1) = true := decide_eq_true c18
         clear c18
         (first | rw [c18b0] | (simp only [i64_w, i32_w]; rw [c18b0]) | skip)
         have H' := mk_ H
         clear H
         go_wp2
         go_meet
         case rel => exact ⟨_, (wrap64 ((wrap64 (10 + x7_1)) - 1)), (by first | rfl | (simp; done) | (simp [*]; done)), H', ⟨by have := HK1.out; have := HK2.out; have := HJ11.out; first | omega | exact Nat.le_refl _⟩, ⟨by (with_reducible repeat (first | apply Kd.N_alloc | apply Kd.N_drewN | apply Kd.N_drew)); exact HO_6.out⟩, ⟨Kd.ur_ HO_170001.out⟩, ⟨u_ BK169.out⟩, ⟨by repeat (first | (with_reducible first | exact HI0.out | apply IsS107.alloc | apply IsS107.drewN | apply IsS107.drew | apply IsS107.set_1 | refine IsS107.far ?_ NB0_169.out _) | exact HI0.out)⟩, ⟨by repeat (first | (with_reducible first | exact HK.out | apply KeepBut.set_ | apply keep_drewN | apply keep_drew | apply keep_alloc | refine keep_far ?_ GW169.out _) | exact HK.out)⟩, ⟨by repeat (first | (with_reducible first | exact HB.out | apply na_ | apply nn_ | apply nw_ | refine bs_ ?_ (IsS107.ge HI0.out) | refine bs_ ?_ GE169.out) | exact HB.out)⟩⟩
        rw [if_neg c18] at H
        have c18b0 : decide (x9_2 < x7_1) = false := decide_eq_false c18
        clear c18
        (first | rw [c18b0] | (simp only [i64_w, i32_w]; rw [c18b0]) | skip)
        have H' := mk_ H
        clear H
        go_wp2
        go_meet
        case rel => exact ⟨_, (wrap64 ((wrap64 (10 + x7_1)) + 1)), (by first | rfl | (simp; done) | (simp [*]; done)), H', ⟨by have := HK1.out; have := HK2.out; have := HJ11.out; first | omega | exact Nat.le_refl _⟩, ⟨by (with_reducible repeat (first | apply Kd.N_alloc | apply Kd.N_drewN | apply Kd.N_drew)); exact HO_6.out⟩, ⟨Kd.ur_ HO_170001.out⟩, ⟨u_ BK169.out⟩, ⟨by repeat (first | (with_reducible first | exact HI0.out | apply IsS107.alloc | apply IsS107.drewN | apply IsS107.drew | apply IsS107.set_1 | refine IsS107.far ?_ NB0_169.out _) | exact HI0.out)⟩, ⟨by repeat (first | (with_reducible first | exact HK.out | apply KeepBut.set_ | apply keep_drewN | apply keep_drew | apply keep_alloc | refine keep_far ?_ GW169.out _) | exact HK.out)⟩, ⟨by repeat (first | (with_reducible first | exact HB.out | apply na_ | apply nn_ | apply nw_ | refine bs_ ?_ (IsS107.ge HI0.out) | refine bs_ ?_ GE169.out) | exact HB.out)⟩⟩
       case rest =>
        clear HC17
        try clear c1
        try clear p2
        try clear c4
        try clear p6
        try clear c7
        try clear c7b0
        try clear c9
        try clear c11
        try clear c11b0
        try clear c13
        try clear c13b0
        try clear c13b1
        try clear c16
        try clear c18
        try clear c18b0
        try clear hcz10_0
        try clear hcz10_1
        try clear hfz10_0
        try clear hfz10_1
        try clear p2
        try clear p6
        obtain ⟨kq, x10_16, rfl, HA, HJ16, HO_6, HO_170001, BK169, HI0, HK, HB⟩ := hcut
        cases kq with
        | zero => exact absurd HA.out (by simp [spec_l20Net.j3])
        | succ kj16 =>
         have H := HA.out
         clear HA
         simp only [spec_l20Net.j3] at H
         replace H := Option.bind_eq_some_iff.mp H
         obtain ⟨⟨t172, t173⟩, A190, H⟩ := H
         (try dsimp only at H)
         have A19 := mk_ A190
         clear A190
         by_cases c20 : t172 = 0
         rotate_left
         focus
          rw [if_neg c20] at H
          have c20b0 : (t172 == 0) = false := beq_eq_false_iff_ne.mpr c20
          have c20b1 : (t172 != 0) = true := bne_iff_ne.mpr c20
          replace H := Option.bind_eq_some_iff.mp H
          obtain ⟨⟨t182, t183⟩, A320, H⟩ := H
          (try dsimp only at H)
          have A32 := mk_ A320
          clear A320
          replace H := Option.bind_eq_some_iff.mp H
          obtain ⟨⟨t184, t187⟩, A330, H⟩ := H
          (try dsimp only at H)
          have A33 := mk_ A330
          clear A330
          have H' := mk_ H
          clear H
         rotate_left
         focus
          rw [if_pos c20] at H
          have c20b0 : (t172 == 0) = true := beq_iff_eq.mpr c20
          have c20b1 : (t172 != 0) = false := bne_eq_false_iff_eq.mpr c20
          clear c20
          replace H := Option.bind_eq_some_iff.mp H
          obtain ⟨⟨t174, t175⟩, A210, H⟩ := H
          (try dsimp only at H)
          have A21 := mk_ A210
          clear A210
          replace H := Option.bind_eq_some_iff.mp H
          obtain ⟨⟨t176, t177⟩, A220, H⟩ := H
          (try dsimp only at H)
          have A22 := mk_ A220
          clear A220
          replace H := Option.bind_eq_some_iff.mp H
          obtain ⟨⟨t178, t181⟩, A230, H⟩ := H
          (try dsimp only at H)
          have A23 := mk_ A230
          clear A230
          have H' := mk_ H
          clear H
         rotate_left
         all_goals
          try go_wp2_with (first | ((with_reducible refine gate_callee (f := 46) rfl ?_); have hA_ := A19.out; refine goesL_ (some 46) rfl rfl Try.func46 (by kernel_rfl) rfl #[.pointer (some ⟨g, 0, none⟩), .int .i64 20] rfl (by (try simp only [lm_, lo_, ln_]); try rfl) ?_; (with_reducible refine (spec_l20Rd_pick.calls kj16 g s0_0 x1001_11 20 t172 t173 w0 _ ?side1 ?side2 A19.out).mono ?_); (case side1 => repeat (first | (with_reducible first | exact HI0.out | apply IsS107.alloc | apply IsS107.drewN | apply IsS107.drew | apply IsS107.set_1 | refine IsS107.far ?_ NB0_169.out _) | exact HI0.out)); (case side2 => repeat (first | (with_reducible first | exact HB.out | apply na_ | apply nn_ | apply nw_ | refine bs_ ?_ (IsS107.ge HI0.out) | refine bs_ ?_ GE169.out) | exact HB.out)); rintro e w12600 ⟨rfl, hi, hb, hk⟩; refine ⟨_, rfl, ?_⟩; replace HO_6 := mk_ (Kd.N_mono (Kd.N_keep (Kd.N_mono (ok := fun k_ => (((w.heap.size ≤ k_)) ∧ (some k_ ≠ (u170001 : Value).ownBlock ∧ (k_ ≠ gb169 ∧ k_ ≠ g)))) (by (with_reducible repeat (first | apply Kd.N_alloc | apply Kd.N_drewN | apply Kd.N_drew)); exact HO_6.out) (fun k_ hk_ => (⟨hk_, hk_.2.2.2⟩ : _ ∧ k_ ≠ g))) hk (fun _ h => h.2)) (fun _ h => h.1)); replace HO_170001 := mk_ (Kd.R_mono (Kd.R_keep (IsS107.apart (show IsS107 w0 _ g s0_0 x1001_11 from by repeat (first | (with_reducible first | exact HI0.out | apply IsS107.alloc | apply IsS107.drewN | apply IsS107.drew | apply IsS107.set_1 | refine IsS107.far ?_ NB0_169.out _) | exact HI0.out)) (Kd.ur_ HO_170001.out) (by decide)) hk (fun _ h => h.2)) (fun _ h => h.1)); replace BK169 := mk_ (KeepBut.blk hk (g' := gb169) (o := .cells #[.int .i64 (wrap64 (10 + x7_1)), u170001] 34 (0, 0)) (u_ BK169.out) NB169_0.out (by simp)); replace HK := mk_ (KeepBut.trans (by repeat (first | (with_reducible first | exact HK.out | apply KeepBut.set_ | apply keep_drewN | apply keep_drew | apply keep_alloc | refine keep_far ?_ GW169.out _) | exact HK.out)) hk (.inl rfl)); replace HB := mk_ (hb); replace HI0 := mk_ (hi); clear hA_ A19) | ((with_reducible refine gate_callee (f := 46) rfl ?_); have hA_ := A21.out; refine goesL_ (some 51) rfl rfl Try.func46 (by kernel_rfl) rfl #[.pointer (some ⟨g, 0, none⟩), .int .i64 (wrap64 ((wrap64 (1 + t158)) + 1))] rfl (by (try simp only [lm_, lo_, ln_]); try rfl) ?_; (with_reducible refine (spec_l20Rd_pick.calls kj16 g s0_0 t173 (wrap64 ((wrap64 (1 + t158)) + 1)) t174 t175 w0 _ ?side1 ?side2 A21.out).mono ?_); (case side1 => repeat (first | (with_reducible first | exact HI0.out | apply IsS107.alloc | apply IsS107.drewN | apply IsS107.drew | apply IsS107.set_1 | refine IsS107.far ?_ NB0_169.out _) | exact HI0.out)); (case side2 => repeat (first | (with_reducible first | exact HB.out | apply na_ | apply nn_ | apply nw_ | refine bs_ ?_ (IsS107.ge HI0.out) | refine bs_ ?_ GE169.out) | exact HB.out)); rintro e w13440 ⟨rfl, hi, hb, hk⟩; refine ⟨_, rfl, ?_⟩; replace HO_6 := mk_ (Kd.N_mono (Kd.N_keep (Kd.N_mono (ok := fun k_ => (((w.heap.size ≤ k_)) ∧ (some k_ ≠ (u170001 : Value).ownBlock ∧ (k_ ≠ gb169 ∧ k_ ≠ g)))) (by (with_reducible repeat (first | apply Kd.N_alloc | apply Kd.N_drewN | apply Kd.N_drew)); exact HO_6.out) (fun k_ hk_ => (⟨hk_, hk_.2.2.2⟩ : _ ∧ k_ ≠ g))) hk (fun _ h => h.2)) (fun _ h => h.1)); replace HO_170001 := mk_ (Kd.R_mono (Kd.R_keep (IsS107.apart (show IsS107 w0 _ g s0_0 t173 from by repeat (first | (with_reducible first | exact HI0.out | apply IsS107.alloc | apply IsS107.drewN | apply IsS107.drew | apply IsS107.set_1 | refine IsS107.far ?_ NB0_169.out _) | exact HI0.out)) (Kd.ur_ HO_170001.out) (by decide)) hk (fun _ h => h.2)) (fun _ h => h.1)); replace BK169 := mk_ (KeepBut.blk hk (g' := gb169) (o := .cells #[.int .i64 (wrap64 (10 + x7_1)), u170001] 34 (0, 0)) (u_ BK169.out) NB169_0.out (by simp)); replace HK := mk_ (KeepBut.trans (by repeat (first | (with_reducible first | exact HK.out | apply KeepBut.set_ | apply keep_drewN | apply keep_drew | apply keep_alloc | refine keep_far ?_ GW169.out _) | exact HK.out)) hk (.inl rfl)); replace HB := mk_ (hb); replace HI0 := mk_ (hi); clear hA_ A21))
          have n0_ := mk_ (Kd.N_drew HO_6.out)
          have n1_ := mk_ (Kd.R_drew HO_170001.out)
          have n2_ := mk_ (blk_drew BK169.out)
          have n3_ := mk_ (IsS107.drew HI0.out)
          have n4_ := mk_ (keep_drew HK.out)
          have n5_ := mk_ (below_drew1 HB.out)
          clear HO_6
          clear HO_170001
          clear BK169
          clear HI0
          clear HK
          clear HB
          have HO_6 := n0_
          have HO_170001 := n1_
          have BK169 := n2_
          have HI0 := n3_
          have HK := n4_
          have HB := n5_
          clear n0_ n1_ n2_ n3_ n4_ n5_
          refine start_ (n := 16) (S := fun w' => w'.cell? ⟨gb169, 0, none⟩ = some (.int .i64 (wrap64 (10 + x7_1))) ∧ w'.cell? ⟨gb169, 1, none⟩ = some (u170001)) (ds := [15]) #[F_, F_, F_, F_, F_, F_, F_, F_, F_, F_, F_, F_, F_, F_, F_, F_] (by kernel_rfl) rfl rfl ⟨(blk_cell BK169.out 0).trans rfl, (blk_cell BK169.out 1).trans rfl⟩ (fun hHeld => ?_); refine with_tabW spec_l20Net.tab16 spec_l20Net.bits16 (fun HT_ HW_ => ?_)
         ·generalize w12600.drew = w5680 at HO_6 HO_170001 BK169 HI0 HK HB hHeld ⊢
          refine pure_ (i := 0) (N := some 54) (v := ?_) (a' := ?_) #[T_, F_, F_, F_, F_, F_, F_, F_, F_, F_, F_, F_, F_, F_, F_, F_] rfl rfl (any_of HT_.out (by kernel_rfl)) (fun _ _ _ h => h) (Or.inl ⟨by rfl, ?_⟩) ?_ ?_
          rotate_left
          ·intro w'
           go_simp
           with_reducible rfl
          rotate_left
          ·simp only [Act.put, la_, lz_, ls_, i64_w, i32_w]
           rfl
          refine pure_ (i := 2) (N := some 56) (v := ?_) (a' := ?_) #[T_, F_, T_, F_, F_, F_, F_, F_, F_, F_, F_, F_, F_, F_, F_, F_] rfl rfl (any_of HT_.out (by kernel_rfl)) (fun _ _ _ h => h) (Or.inl ⟨by rfl, ?_⟩) ?_ ?_
          rotate_left
          ·intro w'
           go_simp
           with_reducible rfl
          rotate_left
          ·simp only [Act.put, la_, lz_, ls_, i64_w, i32_w]
           rfl
          refine pure_ (i := 3) (N := some 57) (v := ?_) (a' := ?_) #[T_, F_, T_, T_, F_, F_, F_, F_, F_, F_, F_, F_, F_, F_, F_, F_] rfl rfl (any_of HT_.out (by kernel_rfl)) (fun _ _ _ h => h) (Or.inl ⟨by rfl, ?_⟩) ?_ ?_
          rotate_left
          ·intro w'
           go_simp
           with_reducible rfl
          rotate_left
          ·simp only [Act.put, la_, lz_, ls_, i64_w, i32_w]
           rfl
          refine pure_ (i := 4) (N := some 58) (v := ?_) (a' := ?_) #[T_, F_, T_, T_, T_, F_, F_, F_, F_, F_, F_, F_, F_, F_, F_, F_] rfl rfl (any_of HT_.out (by kernel_rfl)) (fun _ _ _ h => h) (Or.inl ⟨by rfl, ?_⟩) ?_ ?_
          rotate_left
          ·intro w'
           go_simp
           with_reducible rfl
          rotate_left
          ·simp only [Act.put, la_, lz_, ls_, i64_w, i32_w]
           rfl
          refine pure_ (i := 5) (N := some 59) (v := ?_) (a' := ?_) #[T_, F_, T_, T_, T_, T_, F_, F_, F_, F_, F_, F_, F_, F_, F_, F_] rfl rfl (any_of HT_.out (by kernel_rfl)) (fun _ _ _ h => h) (Or.inl ⟨by rfl, ?_⟩) ?_ ?_
          rotate_left
          ·intro w'
           go_simp
           with_reducible rfl
          rotate_left
          ·simp only [Act.put, la_, lz_, ls_, i64_w, i32_w]
           rfl
          refine take_ (i := 1) (N := some 55) (v := ?_) (a' := ?_) #[T_, T_, T_, T_, T_, T_, F_, F_, F_, F_, F_, F_, F_, F_, F_, F_] rfl rfl (take_ofW HT_.out HW_.out (by kernel_rfl)) (fun _ _ _ h => h) (Or.inl ⟨by rfl, ?_⟩) hHeld ?_ ?_
          rotate_left
          ·rintro w' ⟨s0, s1⟩
           go_simp
           with_reducible rfl
          rotate_left
          ·simp only [Act.put, la_, lz_, ls_, i64_w, i32_w]
           rfl
          refine one_ (i := 6) (N := some 60) #[T_, T_, T_, T_, T_, T_, T_, F_, F_, F_, F_, F_, F_, F_, F_, F_] rfl rfl (one_of HT_.out (by kernel_rfl)) (by decide) (fun K hK => ?_)
          refine goes_ Try.func46 (by kernel_rfl) rfl #[.pointer (some ⟨g, 0, none⟩), .int .i64 4] (by rfl) rfl rfl (by (try simp only [lm_, lo_, ln_]); try rfl) ?_
          with_reducible refine (spec_l20Rd_pick.calls kj16 g s0_0 t173 4 t182 t183 w0 _ ?side1 ?side2 A32.out).mono ?_
          (case side1 => repeat (first | (with_reducible first | exact HI0.out | apply IsS107.alloc | apply IsS107.drewN | apply IsS107.drew | apply IsS107.set_1 | refine IsS107.far ?_ NB0_169.out _) | exact HI0.out))
          (case side2 => repeat (first | (with_reducible first | exact HB.out | apply na_ | apply nn_ | apply nw_ | refine bs_ ?_ (IsS107.ge HI0.out) | refine bs_ ?_ GE169.out) | exact HB.out))
          rintro e w6720 ⟨rfl, hi, hb, hk⟩
          refine ⟨_, rfl, ?_⟩
          have n0_ := mk_ (Kd.N_mono (Kd.N_keep (Kd.N_mono (ok := fun k_ => (((w.heap.size ≤ k_)) ∧ (some k_ ≠ (u170001 : Value).ownBlock ∧ (k_ ≠ gb169 ∧ k_ ≠ g)))) (by (with_reducible repeat (first | apply Kd.N_alloc | apply Kd.N_drewN | apply Kd.N_drew)); exact HO_6.out) (fun k_ hk_ => (⟨hk_, hk_.2.2.2⟩ : _ ∧ k_ ≠ g))) hk (fun _ h => h.2)) (fun _ h => h.1))
          have n1_ := mk_ (Kd.R_mono (Kd.R_keep (IsS107.apart (show IsS107 w0 _ g s0_0 t173 from by repeat (first | (with_reducible first | exact HI0.out | apply IsS107.alloc | apply IsS107.drewN | apply IsS107.drew | apply IsS107.set_1 | refine IsS107.far ?_ NB0_169.out _) | exact HI0.out)) (Kd.ur_ HO_170001.out) (by decide)) hk (fun _ h => h.2)) (fun _ h => h.1))
          have n2_ := mk_ (KeepBut.blk hk (g' := gb169) (o := .cells #[.int .i64 (wrap64 (10 + x7_1)), u170001] 34 (0, 0)) (u_ BK169.out) NB169_0.out (by simp))
          have n3_ := mk_ (KeepBut.trans (by repeat (first | (with_reducible first | exact HK.out | apply KeepBut.set_ | apply keep_drewN | apply keep_drew | apply keep_alloc | refine keep_far ?_ GW169.out _) | exact HK.out)) hk (.inl rfl))
          have n4_ := mk_ (hb)
          have n5_ := mk_ (hi)
          clear HO_6
          clear HO_170001
          clear BK169
          clear HK
          clear HB
          clear HI0
          have HO_6 := n0_
          have HO_170001 := n1_
          have BK169 := n2_
          have HK := n3_
          have HB := n4_
          have HI0 := n5_
          clear n0_ n1_ n2_ n3_ n4_ n5_
          (try clear hb)
          (try clear hb2)
          (try clear hk)
          (try clear hi)
          obtain ⟨Ao7720, co7720, eo7720⟩ := Kd.R_slice HO_170001.out
          (first | subst eo7720 | (injection eo7720 with f1_ f2_ f3_; have f4_ := f1_.symm; have f5_ := f3_.symm; clear f1_ f2_ f3_; subst f4_; subst f5_))
          refine hK.out _ _ ⟨(blk_cell BK169.out 0).trans rfl, (blk_cell BK169.out 1).trans rfl⟩ (fun hHeld => ?_)
          clear hK K
          refine norm_ (a' := ?_) ?_ ?_
          rotate_left
          ·show Act.put _ (some 60) _ = _
           simp only [Act.put, la_, lz_, ls_, i64_w, i32_w]
           rfl
          refine pure_ (i := 7) (N := some 61) (v := ?_) (a' := ?_) #[T_, T_, T_, T_, T_, T_, T_, T_, F_, F_, F_, F_, F_, F_, F_, F_] rfl rfl (any_of HT_.out (by kernel_rfl)) (fun _ _ _ h => h) (Or.inl ⟨by rfl, ?_⟩) ?_ ?_
          rotate_left
          ·intro w'
           go_simp
           with_reducible rfl
          rotate_left
          ·simp only [Act.put, la_, lz_, ls_, i64_w, i32_w]
           rfl
          refine pure_ (i := 8) (N := some 62) (v := ?_) (a' := ?_) #[T_, T_, T_, T_, T_, T_, T_, T_, T_, F_, F_, F_, F_, F_, F_, F_] rfl rfl (any_of HT_.out (by kernel_rfl)) (fun _ _ _ h => h) (Or.inl ⟨by rfl, ?_⟩) ?_ ?_
          rotate_left
          ·intro w'
           go_simp
           with_reducible rfl
          rotate_left
          ·simp only [Act.put, la_, lz_, ls_, i64_w, i32_w]
           rfl
          refine pure_ (i := 9) (N := some 63) (v := ?_) (a' := ?_) #[T_, T_, T_, T_, T_, T_, T_, T_, T_, T_, F_, F_, F_, F_, F_, F_] rfl rfl (any_of HT_.out (by kernel_rfl)) (fun _ _ _ h => h) (Or.inl ⟨by rfl, ?_⟩) ?_ ?_
          rotate_left
          ·intro w'
           go_simp
           with_reducible rfl
          rotate_left
          ·simp only [Act.put, la_, lz_, ls_, i64_w, i32_w]
           rfl
          refine one_ (i := 10) (N := some 64) #[T_, T_, T_, T_, T_, T_, T_, T_, T_, T_, T_, F_, F_, F_, F_, F_] rfl rfl (one_of HT_.out (by kernel_rfl)) (by decide) (fun K hK => ?_)
          refine goes_ Try.func89 (by kernel_rfl) rfl #[.slice Ao7720 x170001_2.length co7720, .agg #[.int .i64 (wrap64 (10 + x9_2)), .int .i64 16, .int .i64 x10_16, .int .i64 (wrap64 (3 + (wrap64 (t182 * 4))))]] (by rfl) rfl rfl (by (try simp only [lm_, lo_, ln_]); try rfl) ?_
          with_reducible refine (spec_RoutePut.calls kj16 _ _ x170001_2 (wrap64 (10 + x9_2)) 16 x10_16 (wrap64 (3 + (wrap64 (t182 * 4)))) t184 t187 _ ?side1 ?side2 A33.out).mono ?_
          (case side1 => repeat (first | exact (Kd.R_reads' HO_170001.out).2.2 | (with_reducible refine Kd.C_alloc ?_ _) | (with_reducible refine Kd.C_drewN ?_ _) | (with_reducible refine Kd.C_drew ?_)))
          (case side2 => exact (Kd.R_reads' HO_170001.out).2.1)
          rintro e w8600 ⟨v8601, rfl, ho0, hb⟩
          refine ⟨_, rfl, ?_⟩
          have n0_ := mk_ (Kd.N_elder' (by (with_reducible repeat (first | apply Kd.N_alloc | apply Kd.N_drewN | apply Kd.N_drew)); exact HO_6.out) (Kd.R_base ho0) hb)
          have n1_ := mk_ (Kd.R_elder' (Kd.ur_ HO_170001.out) (Kd.R_base ho0) hb)
          have n2_ := mk_ (Kd.R_lower (Kd.R_new' (Kd.R_newM (M := fun k_ => (w.heap.size ≤ k_)) ho0 (keep_size (w := w) (g := g) (row := none) (by repeat (first | (with_reducible first | exact HK.out | apply KeepBut.set_ | apply keep_drewN | apply keep_drew | apply keep_alloc | refine keep_far ?_ GW169.out _) | exact HK.out))) (fun k_ h_ => h_)) (Kd.R_lt (Kd.ur_ HO_170001.out))) (keep_size (w := w) (g := g) (row := none) (by repeat (first | (with_reducible first | exact HK.out | apply KeepBut.set_ | apply keep_drewN | apply keep_drew | apply keep_alloc | refine keep_far ?_ GW169.out _) | exact HK.out))))
          have n3_ := mk_ (blk_below (u_ BK169.out) hb)
          have n4_ := mk_ (IsS107.below (by repeat (first | (with_reducible first | exact HI0.out | apply IsS107.alloc | apply IsS107.drewN | apply IsS107.drew | apply IsS107.set_1 | refine IsS107.far ?_ NB0_169.out _) | exact HI0.out)) hb)
          have n5_ := mk_ (KeepBut.trans (by repeat (first | (with_reducible first | exact HK.out | apply KeepBut.set_ | apply keep_drewN | apply keep_drew | apply keep_alloc | refine keep_far ?_ GW169.out _) | exact HK.out)) (KeepBut.of_below hb g none) (.inl rfl))
          have n6_ := mk_ (below_step (by repeat (first | (with_reducible first | exact HB.out | apply na_ | apply nn_ | apply nw_ | refine bs_ ?_ (IsS107.ge HI0.out) | refine bs_ ?_ GE169.out) | exact HB.out)) hb)
          clear HO_6
          clear HO_170001
          clear BK169
          clear HI0
          clear HK
          clear HB
          have HO_6 := n0_
          have HO_170001 := n1_
          have HO186 := n2_
          have BK169 := n3_
          have HI0 := n4_
          have HK := n5_
          have HB := n6_
          clear n0_ n1_ n2_ n3_ n4_ n5_ n6_
          (try clear hb)
          (try clear hb2)
          (try clear hk)
          (try clear hi)
          (try clear ho0)
          obtain ⟨Ao2180186, co2180186, eo2180186⟩ := Kd.R_slice HO186.out
          (first | subst eo2180186 | (injection eo2180186 with f1_ f2_ f3_; have f4_ := f1_.symm; have f5_ := f3_.symm; clear f1_ f2_ f3_; subst f4_; subst f5_))
          refine hK.out _ _ ⟨(blk_cell BK169.out 0).trans rfl, (blk_cell BK169.out 1).trans rfl⟩ (fun hHeld => ?_)
          clear hK K
          refine norm_ (a' := ?_) ?_ ?_
          rotate_left
          ·show Act.put _ (some 64) _ = _
           simp only [Act.put, la_, lz_, ls_, i64_w, i32_w]
           rfl
          refine pure_ (i := 11) (N := some 53) (v := ?_) (a' := ?_) #[T_, T_, T_, T_, T_, T_, T_, T_, T_, T_, T_, T_, F_, F_, F_, F_] rfl rfl (any_of HT_.out (by kernel_rfl)) (fun _ _ _ h => h) (Or.inl ⟨by rfl, ?_⟩) ?_ ?_
          rotate_left
          ·intro w'
           go_simp
           with_reducible rfl
          rotate_left
          ·simp only [Act.put, la_, lz_, ls_, i64_w, i32_w]
           rfl
          refine pure_ (i := 12) (N := some 65) (v := ?_) (a' := ?_) #[T_, T_, T_, T_, T_, T_, T_, T_, T_, T_, T_, T_, T_, F_, F_, F_] rfl rfl (any_of HT_.out (by kernel_rfl)) (fun _ _ _ h => h) (Or.inl ⟨by rfl, ?_⟩) ?_ ?_
          rotate_left
          ·intro w'
           go_simp
           with_reducible rfl
          rotate_left
          ·simp only [Act.put, la_, lz_, ls_, i64_w, i32_w]
           rfl
          refine pure_ (i := 13) (N := some 66) (v := ?_) (a' := ?_) #[T_, T_, T_, T_, T_, T_, T_, T_, T_, T_, T_, T_, T_, T_, F_, F_] rfl rfl (any_of HT_.out (by kernel_rfl)) (fun _ _ _ h => h) (Or.inl ⟨by rfl, ?_⟩) ?_ ?_
          rotate_left
          ·intro w'
           go_simp
           with_reducible rfl
          rotate_left
          ·simp only [Act.put, la_, lz_, ls_, i64_w, i32_w]
           rfl
          refine pure_ (i := 14) (N := some 67) (v := ?_) (a' := ?_) #[T_, T_, T_, T_, T_, T_, T_, T_, T_, T_, T_, T_, T_, T_, T_, F_] rfl rfl (any_of HT_.out (by kernel_rfl)) (fun _ _ _ h => h) (Or.inl ⟨by rfl, ?_⟩) ?_ ?_
          rotate_left
          ·intro w'
           go_simp
           with_reducible rfl
          rotate_left
          ·simp only [Act.put, la_, lz_, ls_, i64_w, i32_w]
           rfl
          refine last_ (i := 15) (N := none) #[T_, T_, T_, T_, T_, T_, T_, T_, T_, T_, T_, T_, T_, T_, T_, T_] rfl rfl (one_of HT_.out (by kernel_rfl)) (by decide) (fun K hK => ?_)
          have hs10840 : w8600.cell? ⟨gb169, 1, none⟩ = some (.slice Ao7720 x170001_2.length co7720) := (blk_cell BK169.out 1).trans rfl
          have hfs10840 := blk_frozen BK169.out 1
          refine skip_ (w1 := ?_) (by rfl) rfl ?_ ?_
          rotate_left
          ·go_simp
           rfl
          refine hK.out _ _ ?_
          clear hK K
          refine done_ (done_of HT_.out (by kernel_rfl)) ?_
          try go_wp2
          go_roundg kj16
          case measure => have := HK1.out; have := HK2.out; have := HJ11.out; have := HJ16.out; omega
          case rel => exact ⟨(wrap64 (x9_2 + 1)), (t183), (t184), (.slice Ao2180186 t184.length co2180186), (by first | rfl | (simp; done) | (simp [*]; done)), H', ⟨by have := HK1.out; have := HK2.out; have := HJ11.out; have := HJ16.out; omega⟩, ⟨by (with_reducible repeat (first | apply Kd.N_alloc | apply Kd.N_drewN | apply Kd.N_drew)); exact Kd.N_mono (Kd.N_far (p := ⟨gb169, 1, none⟩) (Kd.N_mono HO_6.out (fun k_ hk => (⟨hk, hk.1.2.2.1⟩ : _ ∧ k_ ≠ gb169))) (fun _ hk => hk.2) (.slice Ao2180186 t184.length co2180186)) (fun _ hk => by first | exact ⟨hk.1.1.1, ⟨hk.1.2, ⟨hk.1.1.2.2.1, hk.1.1.2.2.2⟩⟩⟩ | exact hk.1 | exact hk | exact ⟨hk.1, hk.2⟩ | exact ⟨.inr hk.1, hk.2⟩ | simp only [hk, ne_eq, not_false_eq_true, and_self])⟩, ⟨by (with_reducible repeat (first | apply Kd.R_alloc | apply Kd.R_drewN | apply Kd.R_drew)); exact Kd.R_mono (Kd.R_far (p := ⟨gb169, 1, none⟩) (Kd.R_types HO186.out BK169.out (by decide)) (fun _ hk => hk.2) (.slice Ao2180186 t184.length co2180186)) (fun _ hk => hk.1.1.1)⟩, ⟨by (with_reducible repeat (first | refine bn_ ?_ _ | refine bw_ ?_ | refine ba_ ?_ _)); refine blk_put (cs := #[.int .i64 (wrap64 (10 + x7_1)), .slice Ao7720 x170001_2.length co7720]) ?_ 1 _ rfl; (with_reducible repeat (first | refine bn_ ?_ _ | refine bw_ ?_ | refine ba_ ?_ _)); exact BK169.out⟩, ⟨by repeat (first | (with_reducible first | exact HI0.out | apply IsS107.alloc | apply IsS107.drewN | apply IsS107.drew | apply IsS107.set_1 | refine IsS107.far ?_ NB0_169.out _) | exact HI0.out)⟩, ⟨by repeat (first | (with_reducible first | exact HK.out | apply KeepBut.set_ | apply keep_drewN | apply keep_drew | apply keep_alloc | refine keep_far ?_ GW169.out _) | exact HK.out)⟩, ⟨by repeat (first | (with_reducible first | exact HB.out | apply na_ | apply nn_ | apply nw_ | refine bs_ ?_ (IsS107.ge HI0.out) | refine bs_ ?_ GE169.out) | exact HB.out)⟩⟩
         ·generalize w13440.drew = w5680 at HO_6 HO_170001 BK169 HI0 HK HB hHeld ⊢
          refine pure_ (i := 0) (N := some 54) (v := ?_) (a' := ?_) #[T_, F_, F_, F_, F_, F_, F_, F_, F_, F_, F_, F_, F_, F_, F_, F_] rfl rfl (any_of HT_.out (by kernel_rfl)) (fun _ _ _ h => h) (Or.inl ⟨by rfl, ?_⟩) ?_ ?_
          rotate_left
          ·intro w'
           go_simp
           with_reducible rfl
          rotate_left
          ·simp only [Act.put, la_, lz_, ls_, i64_w, i32_w]
           rfl
          refine pure_ (i := 2) (N := some 56) (v := ?_) (a' := ?_) #[T_, F_, T_, F_, F_, F_, F_, F_, F_, F_, F_, F_, F_, F_, F_, F_] rfl rfl (any_of HT_.out (by kernel_rfl)) (fun _ _ _ h => h) (Or.inl ⟨by rfl, ?_⟩) ?_ ?_
          rotate_left
          ·intro w'
           go_simp
           with_reducible rfl
          rotate_left
          ·simp only [Act.put, la_, lz_, ls_, i64_w, i32_w]
           rfl
          refine pure_ (i := 3) (N := some 57) (v := ?_) (a' := ?_) #[T_, F_, T_, T_, F_, F_, F_, F_, F_, F_, F_, F_, F_, F_, F_, F_] rfl rfl (any_of HT_.out (by kernel_rfl)) (fun _ _ _ h => h) (Or.inl ⟨by rfl, ?_⟩) ?_ ?_
          rotate_left
          ·intro w'
           go_simp
           with_reducible rfl
          rotate_left
          ·simp only [Act.put, la_, lz_, ls_, i64_w, i32_w]
           rfl
          refine pure_ (i := 4) (N := some 58) (v := ?_) (a' := ?_) #[T_, F_, T_, T_, T_, F_, F_, F_, F_, F_, F_, F_, F_, F_, F_, F_] rfl rfl (any_of HT_.out (by kernel_rfl)) (fun _ _ _ h => h) (Or.inl ⟨by rfl, ?_⟩) ?_ ?_
          rotate_left
          ·intro w'
           go_simp
           with_reducible rfl
          rotate_left
          ·simp only [Act.put, la_, lz_, ls_, i64_w, i32_w]
           rfl
          refine pure_ (i := 5) (N := some 59) (v := ?_) (a' := ?_) #[T_, F_, T_, T_, T_, T_, F_, F_, F_, F_, F_, F_, F_, F_, F_, F_] rfl rfl (any_of HT_.out (by kernel_rfl)) (fun _ _ _ h => h) (Or.inl ⟨by rfl, ?_⟩) ?_ ?_
          rotate_left
          ·intro w'
           go_simp
           with_reducible rfl
          rotate_left
          ·simp only [Act.put, la_, lz_, ls_, i64_w, i32_w]
           rfl
          refine take_ (i := 1) (N := some 55) (v := ?_) (a' := ?_) #[T_, T_, T_, T_, T_, T_, F_, F_, F_, F_, F_, F_, F_, F_, F_, F_] rfl rfl (take_ofW HT_.out HW_.out (by kernel_rfl)) (fun _ _ _ h => h) (Or.inl ⟨by rfl, ?_⟩) hHeld ?_ ?_
          rotate_left
          ·rintro w' ⟨s0, s1⟩
           go_simp
           with_reducible rfl
          rotate_left
          ·simp only [Act.put, la_, lz_, ls_, i64_w, i32_w]
           rfl
          refine one_ (i := 6) (N := some 60) #[T_, T_, T_, T_, T_, T_, T_, F_, F_, F_, F_, F_, F_, F_, F_, F_] rfl rfl (one_of HT_.out (by kernel_rfl)) (by decide) (fun K hK => ?_)
          refine goes_ Try.func46 (by kernel_rfl) rfl #[.pointer (some ⟨g, 0, none⟩), .int .i64 4] (by rfl) rfl rfl (by (try simp only [lm_, lo_, ln_]); try rfl) ?_
          with_reducible refine (spec_l20Rd_pick.calls kj16 g s0_0 t175 4 t176 t177 w0 _ ?side1 ?side2 A22.out).mono ?_
          (case side1 => repeat (first | (with_reducible first | exact HI0.out | apply IsS107.alloc | apply IsS107.drewN | apply IsS107.drew | apply IsS107.set_1 | refine IsS107.far ?_ NB0_169.out _) | exact HI0.out))
          (case side2 => repeat (first | (with_reducible first | exact HB.out | apply na_ | apply nn_ | apply nw_ | refine bs_ ?_ (IsS107.ge HI0.out) | refine bs_ ?_ GE169.out) | exact HB.out))
          rintro e w6720 ⟨rfl, hi, hb, hk⟩
          refine ⟨_, rfl, ?_⟩
          have n0_ := mk_ (Kd.N_mono (Kd.N_keep (Kd.N_mono (ok := fun k_ => (((w.heap.size ≤ k_)) ∧ (some k_ ≠ (u170001 : Value).ownBlock ∧ (k_ ≠ gb169 ∧ k_ ≠ g)))) (by (with_reducible repeat (first | apply Kd.N_alloc | apply Kd.N_drewN | apply Kd.N_drew)); exact HO_6.out) (fun k_ hk_ => (⟨hk_, hk_.2.2.2⟩ : _ ∧ k_ ≠ g))) hk (fun _ h => h.2)) (fun _ h => h.1))
          have n1_ := mk_ (Kd.R_mono (Kd.R_keep (IsS107.apart (show IsS107 w0 _ g s0_0 t175 from by repeat (first | (with_reducible first | exact HI0.out | apply IsS107.alloc | apply IsS107.drewN | apply IsS107.drew | apply IsS107.set_1 | refine IsS107.far ?_ NB0_169.out _) | exact HI0.out)) (Kd.ur_ HO_170001.out) (by decide)) hk (fun _ h => h.2)) (fun _ h => h.1))
          have n2_ := mk_ (KeepBut.blk hk (g' := gb169) (o := .cells #[.int .i64 (wrap64 (10 + x7_1)), u170001] 34 (0, 0)) (u_ BK169.out) NB169_0.out (by simp))
          have n3_ := mk_ (KeepBut.trans (by repeat (first | (with_reducible first | exact HK.out | apply KeepBut.set_ | apply keep_drewN | apply keep_drew | apply keep_alloc | refine keep_far ?_ GW169.out _) | exact HK.out)) hk (.inl rfl))
          have n4_ := mk_ (hb)
          have n5_ := mk_ (hi)
          clear HO_6
          clear HO_170001
          clear BK169
          clear HK
          clear HB
          clear HI0
          have HO_6 := n0_
          have HO_170001 := n1_
          have BK169 := n2_
          have HK := n3_
          have HB := n4_
          have HI0 := n5_
          clear n0_ n1_ n2_ n3_ n4_ n5_
          (try clear hb)
          (try clear hb2)
          (try clear hk)
          (try clear hi)
          obtain ⟨Ao7720, co7720, eo7720⟩ := Kd.R_slice HO_170001.out
          (first | subst eo7720 | (injection eo7720 with f1_ f2_ f3_; have f4_ := f1_.symm; have f5_ := f3_.symm; clear f1_ f2_ f3_; subst f4_; subst f5_))
          refine hK.out _ _ ⟨(blk_cell BK169.out 0).trans rfl, (blk_cell BK169.out 1).trans rfl⟩ (fun hHeld => ?_)
          clear hK K
          refine norm_ (a' := ?_) ?_ ?_
          rotate_left
          ·show Act.put _ (some 60) _ = _
           simp only [Act.put, la_, lz_, ls_, i64_w, i32_w]
           rfl
          refine pure_ (i := 7) (N := some 61) (v := ?_) (a' := ?_) #[T_, T_, T_, T_, T_, T_, T_, T_, F_, F_, F_, F_, F_, F_, F_, F_] rfl rfl (any_of HT_.out (by kernel_rfl)) (fun _ _ _ h => h) (Or.inl ⟨by rfl, ?_⟩) ?_ ?_
          rotate_left
          ·intro w'
           go_simp
           with_reducible rfl
          rotate_left
          ·simp only [Act.put, la_, lz_, ls_, i64_w, i32_w]
           rfl
          refine pure_ (i := 8) (N := some 62) (v := ?_) (a' := ?_) #[T_, T_, T_, T_, T_, T_, T_, T_, T_, F_, F_, F_, F_, F_, F_, F_] rfl rfl (any_of HT_.out (by kernel_rfl)) (fun _ _ _ h => h) (Or.inl ⟨by rfl, ?_⟩) ?_ ?_
          rotate_left
          ·intro w'
           go_simp
           with_reducible rfl
          rotate_left
          ·simp only [Act.put, la_, lz_, ls_, i64_w, i32_w]
           rfl
          refine pure_ (i := 9) (N := some 63) (v := ?_) (a' := ?_) #[T_, T_, T_, T_, T_, T_, T_, T_, T_, T_, F_, F_, F_, F_, F_, F_] rfl rfl (any_of HT_.out (by kernel_rfl)) (fun _ _ _ h => h) (Or.inl ⟨by rfl, ?_⟩) ?_ ?_
          rotate_left
          ·intro w'
           go_simp
           with_reducible rfl
          rotate_left
          ·simp only [Act.put, la_, lz_, ls_, i64_w, i32_w]
           rfl
          refine one_ (i := 10) (N := some 64) #[T_, T_, T_, T_, T_, T_, T_, T_, T_, T_, T_, F_, F_, F_, F_, F_] rfl rfl (one_of HT_.out (by kernel_rfl)) (by decide) (fun K hK => ?_)
          refine goes_ Try.func89 (by kernel_rfl) rfl #[.slice Ao7720 x170001_2.length co7720, .agg #[.int .i64 (wrap64 (10 + x9_2)), .int .i64 16, .int .i64 (wrap64 (10 + t174)), .int .i64 (wrap64 (3 + (wrap64 (t176 * 4))))]] (by rfl) rfl rfl (by (try simp only [lm_, lo_, ln_]); try rfl) ?_
          with_reducible refine (spec_RoutePut.calls kj16 _ _ x170001_2 (wrap64 (10 + x9_2)) 16 (wrap64 (10 + t174)) (wrap64 (3 + (wrap64 (t176 * 4)))) t178 t181 _ ?side1 ?side2 A23.out).mono ?_
          (case side1 => repeat (first | exact (Kd.R_reads' HO_170001.out).2.2 | (with_reducible refine Kd.C_alloc ?_ _) | (with_reducible refine Kd.C_drewN ?_ _) | (with_reducible refine Kd.C_drew ?_)))
          (case side2 => exact (Kd.R_reads' HO_170001.out).2.1)
          rintro e w8600 ⟨v8601, rfl, ho0, hb⟩
          refine ⟨_, rfl, ?_⟩
          have n0_ := mk_ (Kd.N_elder' (by (with_reducible repeat (first | apply Kd.N_alloc | apply Kd.N_drewN | apply Kd.N_drew)); exact HO_6.out) (Kd.R_base ho0) hb)
          have n1_ := mk_ (Kd.R_elder' (Kd.ur_ HO_170001.out) (Kd.R_base ho0) hb)
          have n2_ := mk_ (Kd.R_lower (Kd.R_new' (Kd.R_newM (M := fun k_ => (w.heap.size ≤ k_)) ho0 (keep_size (w := w) (g := g) (row := none) (by repeat (first | (with_reducible first | exact HK.out | apply KeepBut.set_ | apply keep_drewN | apply keep_drew | apply keep_alloc | refine keep_far ?_ GW169.out _) | exact HK.out))) (fun k_ h_ => h_)) (Kd.R_lt (Kd.ur_ HO_170001.out))) (keep_size (w := w) (g := g) (row := none) (by repeat (first | (with_reducible first | exact HK.out | apply KeepBut.set_ | apply keep_drewN | apply keep_drew | apply keep_alloc | refine keep_far ?_ GW169.out _) | exact HK.out))))
          have n3_ := mk_ (blk_below (u_ BK169.out) hb)
          have n4_ := mk_ (IsS107.below (by repeat (first | (with_reducible first | exact HI0.out | apply IsS107.alloc | apply IsS107.drewN | apply IsS107.drew | apply IsS107.set_1 | refine IsS107.far ?_ NB0_169.out _) | exact HI0.out)) hb)
          have n5_ := mk_ (KeepBut.trans (by repeat (first | (with_reducible first | exact HK.out | apply KeepBut.set_ | apply keep_drewN | apply keep_drew | apply keep_alloc | refine keep_far ?_ GW169.out _) | exact HK.out)) (KeepBut.of_below hb g none) (.inl rfl))
          have n6_ := mk_ (below_step (by repeat (first | (with_reducible first | exact HB.out | apply na_ | apply nn_ | apply nw_ | refine bs_ ?_ (IsS107.ge HI0.out) | refine bs_ ?_ GE169.out) | exact HB.out)) hb)
          clear HO_6
          clear HO_170001
          clear BK169
          clear HI0
          clear HK
          clear HB
          have HO_6 := n0_
          have HO_170001 := n1_
          have HO180 := n2_
          have BK169 := n3_
          have HI0 := n4_
          have HK := n5_
          have HB := n6_
          clear n0_ n1_ n2_ n3_ n4_ n5_ n6_
          (try clear hb)
          (try clear hb2)
          (try clear hk)
          (try clear hi)
          (try clear ho0)
          obtain ⟨Ao2180180, co2180180, eo2180180⟩ := Kd.R_slice HO180.out
          (first | subst eo2180180 | (injection eo2180180 with f1_ f2_ f3_; have f4_ := f1_.symm; have f5_ := f3_.symm; clear f1_ f2_ f3_; subst f4_; subst f5_))
          refine hK.out _ _ ⟨(blk_cell BK169.out 0).trans rfl, (blk_cell BK169.out 1).trans rfl⟩ (fun hHeld => ?_)
          clear hK K
          refine norm_ (a' := ?_) ?_ ?_
          rotate_left
          ·show Act.put _ (some 64) _ = _
           simp only [Act.put, la_, lz_, ls_, i64_w, i32_w]
           rfl
          refine pure_ (i := 11) (N := some 53) (v := ?_) (a' := ?_) #[T_, T_, T_, T_, T_, T_, T_, T_, T_, T_, T_, T_, F_, F_, F_, F_] rfl rfl (any_of HT_.out (by kernel_rfl)) (fun _ _ _ h => h) (Or.inl ⟨by rfl, ?_⟩) ?_ ?_
          rotate_left
          ·intro w'
           go_simp
           with_reducible rfl
          rotate_left
          ·simp only [Act.put, la_, lz_, ls_, i64_w, i32_w]
           rfl
          refine pure_ (i := 12) (N := some 65) (v := ?_) (a' := ?_) #[T_, T_, T_, T_, T_, T_, T_, T_, T_, T_, T_, T_, T_, F_, F_, F_] rfl rfl (any_of HT_.out (by kernel_rfl)) (fun _ _ _ h => h) (Or.inl ⟨by rfl, ?_⟩) ?_ ?_
          rotate_left
          ·intro w'
           go_simp
           with_reducible rfl
          rotate_left
          ·simp only [Act.put, la_, lz_, ls_, i64_w, i32_w]
           rfl
          refine pure_ (i := 13) (N := some 66) (v := ?_) (a' := ?_) #[T_, T_, T_, T_, T_, T_, T_, T_, T_, T_, T_, T_, T_, T_, F_, F_] rfl rfl (any_of HT_.out (by kernel_rfl)) (fun _ _ _ h => h) (Or.inl ⟨by rfl, ?_⟩) ?_ ?_
          rotate_left
          ·intro w'
           go_simp
           with_reducible rfl
          rotate_left
          ·simp only [Act.put, la_, lz_, ls_, i64_w, i32_w]
           rfl
          refine pure_ (i := 14) (N := some 67) (v := ?_) (a' := ?_) #[T_, T_, T_, T_, T_, T_, T_, T_, T_, T_, T_, T_, T_, T_, T_, F_] rfl rfl (any_of HT_.out (by kernel_rfl)) (fun _ _ _ h => h) (Or.inl ⟨by rfl, ?_⟩) ?_ ?_
          rotate_left
          ·intro w'
           go_simp
           with_reducible rfl
          rotate_left
          ·simp only [Act.put, la_, lz_, ls_, i64_w, i32_w]
           rfl
          refine last_ (i := 15) (N := none) #[T_, T_, T_, T_, T_, T_, T_, T_, T_, T_, T_, T_, T_, T_, T_, T_] rfl rfl (one_of HT_.out (by kernel_rfl)) (by decide) (fun K hK => ?_)
          have hs10840 : w8600.cell? ⟨gb169, 1, none⟩ = some (.slice Ao7720 x170001_2.length co7720) := (blk_cell BK169.out 1).trans rfl
          have hfs10840 := blk_frozen BK169.out 1
          refine skip_ (w1 := ?_) (by rfl) rfl ?_ ?_
          rotate_left
          ·go_simp
           rfl
          refine hK.out _ _ ?_
          clear hK K
          refine done_ (done_of HT_.out (by kernel_rfl)) ?_
          try go_wp2
          go_roundg kj16
          case measure => have := HK1.out; have := HK2.out; have := HJ11.out; have := HJ16.out; omega
          case rel => exact ⟨(wrap64 (x9_2 + 1)), (t177), (t178), (.slice Ao2180180 t178.length co2180180), (by first | rfl | (simp; done) | (simp [*]; done)), H', ⟨by have := HK1.out; have := HK2.out; have := HJ11.out; have := HJ16.out; omega⟩, ⟨by (with_reducible repeat (first | apply Kd.N_alloc | apply Kd.N_drewN | apply Kd.N_drew)); exact Kd.N_mono (Kd.N_far (p := ⟨gb169, 1, none⟩) (Kd.N_mono HO_6.out (fun k_ hk => (⟨hk, hk.1.2.2.1⟩ : _ ∧ k_ ≠ gb169))) (fun _ hk => hk.2) (.slice Ao2180180 t178.length co2180180)) (fun _ hk => by first | exact ⟨hk.1.1.1, ⟨hk.1.2, ⟨hk.1.1.2.2.1, hk.1.1.2.2.2⟩⟩⟩ | exact hk.1 | exact hk | exact ⟨hk.1, hk.2⟩ | exact ⟨.inr hk.1, hk.2⟩ | simp only [hk, ne_eq, not_false_eq_true, and_self])⟩, ⟨by (with_reducible repeat (first | apply Kd.R_alloc | apply Kd.R_drewN | apply Kd.R_drew)); exact Kd.R_mono (Kd.R_far (p := ⟨gb169, 1, none⟩) (Kd.R_types HO180.out BK169.out (by decide)) (fun _ hk => hk.2) (.slice Ao2180180 t178.length co2180180)) (fun _ hk => hk.1.1.1)⟩, ⟨by (with_reducible repeat (first | refine bn_ ?_ _ | refine bw_ ?_ | refine ba_ ?_ _)); refine blk_put (cs := #[.int .i64 (wrap64 (10 + x7_1)), .slice Ao7720 x170001_2.length co7720]) ?_ 1 _ rfl; (with_reducible repeat (first | refine bn_ ?_ _ | refine bw_ ?_ | refine ba_ ?_ _)); exact BK169.out⟩, ⟨by repeat (first | (with_reducible first | exact HI0.out | apply IsS107.alloc | apply IsS107.drewN | apply IsS107.drew | apply IsS107.set_1 | refine IsS107.far ?_ NB0_169.out _) | exact HI0.out)⟩, ⟨by repeat (first | (with_reducible first | exact HK.out | apply KeepBut.set_ | apply keep_drewN | apply keep_drew | apply keep_alloc | refine keep_far ?_ GW169.out _) | exact HK.out)⟩, ⟨by repeat (first | (with_reducible first | exact HB.out | apply na_ | apply nn_ | apply nw_ | refine bs_ ?_ (IsS107.ge HI0.out) | refine bs_ ?_ GE169.out) | exact HB.out)⟩⟩

end Go.Proofs.Ytkkibccnpkbbjab.MFnPathRoom
