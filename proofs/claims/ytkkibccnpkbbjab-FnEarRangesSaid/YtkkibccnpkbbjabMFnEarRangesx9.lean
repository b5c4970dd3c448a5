/- Functions that the law FnEarRanges reaches, each with the proof that the machine's call comes to just its answer; no conditions but those that each theorem states. Printed by a program of this session over the kit's print. -/
import Derived.Test.YtkkibccnpkbbjabMFnEarRangesx0
import Derived.Test.YtkkibccnpkbbjabMFnEarRangesx4
import Derived.Test.YtkkibccnpkbbjabMFnEarRangesx6
import Derived.Test.YtkkibccnpkbbjabMFnEarRangesx7
import Derived.Test.YtkkibccnpkbbjabMFnEarRangesx8
namespace Go.Proofs.Ytkkibccnpkbbjab.MFnEarRanges
open Go.RowKit Go.Proofs.YtkkibccnpkbbjabV.PrintWords Go.Proofs.YtkkibccnpkbbjabV.PrintLast Go.Proofs.YtkkibccnpkbbjabV.PrintMore
attribute [local go_sem] max2_int min2_int max_two min_two max_three min_three max_four min_four   -- for this text's walks alone
set_option linter.unusedVariables false
set_option linter.unusedSimpArgs false

/-! ### spec_l20Ear: function 75 -/
def spec_l20Ear.l0 : Nat → Int → Int → List Int → Int → Int → Int → List Int → List (S68) → Option (Int × Int × List Int × (List (S68)) × Int)
 | 0, _, _, _, _, _, _, _, _ => none
 | k + 1, x1, x6, x1000, x1001, x248000, x248001, x248002, x248003 => if x6 > 0 then ((spec_l20Rd_pick.f k x1000 x1001 14).bind fun bt250 => ((spec_l20Rd_pick.f k x1000 bt250.2 5).bind fun bt252 => ((spec_l20Heard.f k (wrap64 ((wrap64 (x248000 + bt250.1)) - 4)) bt252.1).bind fun t254 => ((spec_EarHear.f k x248000 x248001 x248002 x248003 (wrap64 ((wrap64 (x248000 + bt250.1)) - 4)) t254).bind fun bt257 => ((spec_l20Rd_pick.f k x1000 bt252.2 4).bind fun bt265 => (if bt265.1 = 0 then ((spec_l20Rd_pick.f k x1000 bt265.2 5).bind fun bt267 => ((spec_EarRead.f k bt257.1 bt257.2.1 bt257.2.2.1 bt257.2.2.2 bt267.1).bind fun bt269 => (spec_l20Ear.l0 k x1 (wrap64 (x6 - 1)) x1000 bt267.2 bt269.1 bt269.2.1 bt269.2.2.1 bt269.2.2.2.1))) else (spec_l20Ear.l0 k x1 (wrap64 (x6 - 1)) x1000 bt265.2 bt257.1 bt257.2.1 bt257.2.2.1 bt257.2.2.2))))))) else ((spec_l20Rd_odd.f k x1000 x1001 x1).bind fun bt280 => (if bt280.1 = true then ((spec_l20Rd_pick.f k x1000 bt280.2 4).bind fun bt282 => (if bt282.1 = 0 then ((spec_l20Rd_pick.f k x1000 bt282.2 2).bind fun bt284 => (some (x248000, wrap64 (bt284.1 * 33), x248002, x248003, bt284.2))) else (if bt282.1 = 1 then (some ((-1), x248001, x248002, x248003, bt282.2)) else (if bt282.1 = 2 then ((spec_l20Rd_pick.f k x1000 bt282.2 40).bind fun bt286 => (if x248003.length < 8796093022208 then (some (x248000, x248001, x248002, (x248003 ++ [(⟨wrap64 ((wrap64 (x248000 + bt286.1)) - 3), 0⟩ : S68)]), bt286.2)) else (none))) else (if x248002.length + 20 < 140737488355328 then (some (x248000, x248001, (x248002 ++ List.replicate 20 0), x248003, bt282.2)) else (none)))))) else (some (x248000, x248001, x248002, x248003, bt280.2))))
def spec_l20Ear.f (k : Nat) (s0_0 : List Int) (s0_1 : Int) (a1 : Int) : Option (Int × Int × List Int × (List (S68)) × Int) := (spec_l20Rd_pick.f k s0_0 s0_1 3).bind fun bt243 => ((spec_l20Rd_pick.f k s0_0 bt243.2 20).bind fun bt245 => ((spec_l20Rd_pick.f k s0_0 bt245.2 6).bind fun bt248 => (spec_l20Ear.l0 k a1 bt248.1 s0_0 bt248.2 (wrap64 (100 + (wrap64 (bt243.1 * 40)))) (wrap64 (4 + bt245.1)) ([] : List Int) ([] : List (S68)))))
theorem spec_l20Ear.mono_l : ∀ k, (∀ y0 y1 y2 y3 y4 y5 y6 y7, LeO (spec_l20Ear.l0 k y0 y1 y2 y3 y4 y5 y6 y7) (spec_l20Ear.l0 (k + 1) y0 y1 y2 y3 y4 y5 y6 y7))
 | 0 => fun _ _ _ _ _ _ _ _ r h => by simp [spec_l20Ear.l0] at h
 | k + 1 => by
  have ih0 := spec_l20Ear.mono_l k
  ·intro y0 y1 y2 y3 y4 y5 y6 y7
   unfold spec_l20Ear.l0
   repeat' first
   | (with_reducible exact ih0 _ _ _ _ _ _ _ _)
   | (with_reducible exact spec_EarHear.mono _ _ _ _ _ _ _)
   | (with_reducible exact spec_EarRead.mono _ _ _ _ _ _)
   | (with_reducible exact spec_l20Heard.mono _ _ _)
   | (with_reducible exact spec_l20Rd_odd.mono _ _ _ _)
   | (with_reducible exact spec_l20Rd_pick.mono _ _ _ _)
   | (with_reducible exact LeO.refl _)
   | (with_reducible exact LeO.none _)
   | (with_reducible refine LeO.ite ?_ ?_)
   | (with_reducible refine LeO.bind ?_ (fun _ => ?_))
   | exact ih0 _ _ _ _ _ _ _ _
   | exact spec_EarHear.mono _ _ _ _ _ _ _
   | exact spec_EarRead.mono _ _ _ _ _ _
   | exact spec_l20Heard.mono _ _ _
   | exact spec_l20Rd_odd.mono _ _ _ _
   | exact spec_l20Rd_pick.mono _ _ _ _
   | exact LeO.none _
   | refine LeO.ite ?_ ?_
   | refine LeO.bind ?_ (fun _ => ?_)
theorem spec_l20Ear.mono : ∀ a0 a1 a2 k, LeO (spec_l20Ear.f k a0 a1 a2) (spec_l20Ear.f (k + 1) a0 a1 a2) := by
 intro a0 a1 a2 k
 have ih0 := spec_l20Ear.mono_l k
 unfold spec_l20Ear.f
 repeat' first
   | (with_reducible exact ih0 _ _ _ _ _ _ _ _)
   | (with_reducible exact spec_EarHear.mono _ _ _ _ _ _ _)
   | (with_reducible exact spec_EarRead.mono _ _ _ _ _ _)
   | (with_reducible exact spec_l20Heard.mono _ _ _)
   | (with_reducible exact spec_l20Rd_odd.mono _ _ _ _)
   | (with_reducible exact spec_l20Rd_pick.mono _ _ _ _)
   | (with_reducible exact LeO.refl _)
   | (with_reducible exact LeO.none _)
   | (with_reducible refine LeO.ite ?_ ?_)
   | (with_reducible refine LeO.bind ?_ (fun _ => ?_))
   | exact ih0 _ _ _ _ _ _ _ _
   | exact spec_EarHear.mono _ _ _ _ _ _ _
   | exact spec_EarRead.mono _ _ _ _ _ _
   | exact spec_l20Heard.mono _ _ _
   | exact spec_l20Rd_odd.mono _ _ _ _
   | exact spec_l20Rd_pick.mono _ _ _ _
   | exact LeO.none _
   | refine LeO.ite ?_ ?_
   | refine LeO.bind ?_ (fun _ => ?_)
def spec_l20Ear.T6 : Bool × List (List Nat × List Nat) := (true, [([], []), ([], []), ([], []), ([], []), ([3], [3]), ([2, 4, 4], [2, 4]), ([0, 1, 5, 5], [0, 1, 5]), ([6, 6, 0, 1, 2, 3, 4, 5, 6], [6])])
def spec_l20Ear.B6 : List Nat := [0, 0, 0, 0, 8, 28, 63, 127]
theorem spec_l20Ear.tab6 : rtab .any (opsOf Try.f75 6) = spec_l20Ear.T6 := by kernel_rfl
theorem spec_l20Ear.bits6 : waitsOk spec_l20Ear.T6.2 spec_l20Ear.B6 = true := by kernel_rfl
def spec_l20Ear.T8 : Bool × List (List Nat × List Nat) := (true, [([], []), ([], []), ([1], [1]), ([0, 2, 2], [0, 2]), ([3], [3]), ([4], [4]), ([4], [4]), ([5, 3, 0, 1, 2, 3, 4, 5], [5])])
def spec_l20Ear.B8 : List Nat := [0, 0, 2, 7, 15, 31, 31, 63]
theorem spec_l20Ear.tab8 : rtab .any (opsOf Try.f75 8) = spec_l20Ear.T8 := by kernel_rfl
theorem spec_l20Ear.bits8 : waitsOk spec_l20Ear.T8.2 spec_l20Ear.B8 = true := by kernel_rfl
def spec_l20Ear.T17 : Bool × List (List Nat × List Nat) := (true, [([], []), ([0], [0]), ([], []), ([2], [2]), ([], []), ([4], [4]), ([3, 5], [3, 5]), ([6], [6]), ([7], [7]), ([8], [8]), ([1, 9, 5], [1, 9]), ([0, 1, 2, 3, 4, 5, 6, 7, 8, 9, 10], []), ([11, 10, 10, 0, 1, 2, 3, 4, 5, 6, 7, 8, 9, 10], [10, 11])])
def spec_l20Ear.B17 : List Nat := [0, 1, 0, 4, 0, 16, 60, 124, 252, 508, 1023, 2047, 4095]
theorem spec_l20Ear.tab17 : rtab .any (opsOf Try.f75 17) = spec_l20Ear.T17 := by kernel_rfl
theorem spec_l20Ear.bits17 : waitsOk spec_l20Ear.T17.2 spec_l20Ear.B17 = true := by kernel_rfl
set_option maxHeartbeats 8000000 in
set_option maxRecDepth 100000 in
theorem spec_l20Ear.calls (k : Nat) (g : Nat) (s0_0 : List Int) (s0_1 : Int) (a1 : Int) (r1 : Int) (r2 : Int) (r3 : List Int) (r4 : List (S68)) (r5 : Int) (w0 w : World) (hI : IsS107 w0 w g s0_0 s0_1) (hB : Below w0.heap.size w0 w) (h : spec_l20Ear.f k s0_0 s0_1 a1 = some (r1, r2, r3, r4, r5)) :
  Calls Try.prog 75 #[.pointer (some ⟨g, 0, none⟩), .int .i64 a1] w fun e w' => ∃ v2_ v3_ : Value, e = .returned (.agg #[.int .i64 r1, .int .i64 r2, v2_, v3_]) ∧ Kd.R (Kd.int .u8) 5 w' w.heap.size (fun _ => True) v2_ r3 ∧ Kd.Q k68 68 w' w.heap.size (fun _ => True) v3_ r4 ∧ IsS107 w0 w' g s0_0 r5 ∧ Below w0.heap.size w0 w' ∧ KeepBut w w' g none := by
 have hu59 := Try.underlying59
 have hu68 := Try.underlying68
 have HI0 := mk_ hI
 have HK := mk_ (KeepBut.refl w g none)
 have HL := mk_ hB.size
 clear hI
 have HW0 := mk_ hB.size
 have HB := mk_ hB
 clear hB
 have H := h
 unfold spec_l20Ear.f at H
 clear h
 replace H := Option.bind_eq_some_iff.mp H
 obtain ⟨⟨t243, t244⟩, A30, H⟩ := H
 (try dsimp only at H)
 have A3 := mk_ A30
 clear A30
 replace H := Option.bind_eq_some_iff.mp H
 obtain ⟨⟨t245, t246⟩, A40, H⟩ := H
 (try dsimp only at H)
 have A4 := mk_ A40
 clear A40
 replace H := Option.bind_eq_some_iff.mp H
 obtain ⟨⟨t248, t249⟩, A50, H⟩ := H
 (try dsimp only at H)
 have A5 := mk_ A50
 clear A50
 have H' := mk_ H
 clear H
 go_enter Try.func75, Try.ntmps75
 go_wp2_with (first | ((with_reducible refine gate_dst (N := 4) rfl ?_); refine box_event ?hg (N := 4) ?hd (cs := #[.int .i64 0, .int .i64 0, .slice none 0 0, .slice none 0 0]) (t := 59) ?hr ?_; (case hd => rfl); (case hg => rfl); (case hr => first | (go_simp; done) | (go_simp; rfl)); intro gb242 hg w6 hbox hb; have n0_ := mk_ (IsS107.below (by repeat (first | (with_reducible first | exact HI0.out | apply IsS107.alloc | apply IsS107.drewN | apply IsS107.drew | apply IsS107.set_1) | exact HI0.out)) hb); have n1_ := mk_ (KeepBut.trans (by repeat (first | (with_reducible first | exact HK.out | apply KeepBut.set_ | apply keep_drewN | apply keep_drew | apply keep_alloc) | exact HK.out)) (KeepBut.of_below hb g none) (.inl rfl)); replace HB := mk_ (below_step (by repeat (first | (with_reducible first | exact HB.out | apply na_ | apply nn_ | apply nw_ | refine bs_ ?_ (IsS107.ge HI0.out)) | exact HB.out)) hb); have BK242 := mk_ (hbox); have GW242 := mk_ ((by rw [hg]; exact (keep_size (w := w) (g := g) (row := none) (by repeat (first | (with_reducible first | exact HK.out | apply KeepBut.set_ | apply keep_drewN | apply keep_drew | apply keep_alloc) | exact HK.out))) : w.heap.size ≤ gb242)); have GE242 := ge_ ((Nat.le_trans HW0.out (by rw [hg]; exact (keep_size (w := w) (g := g) (row := none) (by repeat (first | (with_reducible first | exact HK.out | apply KeepBut.set_ | apply keep_drewN | apply keep_drew | apply keep_alloc) | exact HK.out))) : w.heap.size ≤ gb242) : w0.heap.size ≤ gb242)); have NB0_242 := nq_ ((by rw [hg]; exact Nat.ne_of_lt (IsS107.lt (show IsS107 w0 _ g s0_0 s0_1 from by repeat (first | (with_reducible first | exact HI0.out | apply IsS107.alloc | apply IsS107.drewN | apply IsS107.drew | apply IsS107.set_1) | exact HI0.out))) : g ≠ gb242)); have NB242_0 := nq_ ((by rw [hg]; exact Nat.ne_of_gt (IsS107.lt (show IsS107 w0 _ g s0_0 s0_1 from by repeat (first | (with_reducible first | exact HI0.out | apply IsS107.alloc | apply IsS107.drewN | apply IsS107.drew | apply IsS107.set_1) | exact HI0.out))) : gb242 ≠ g)); replace HI0 := n0_; replace HK := n1_; clear n0_ n1_; clear hb hbox hg) | ((with_reducible refine gate_callee (f := 46) rfl ?_); have hA_ := A3.out; refine goesL_ (some 9) rfl rfl Try.func46 (by kernel_rfl) rfl #[.pointer (some ⟨g, 0, none⟩), .int .i64 3] rfl (by (try simp only [lm_, lo_, ln_]); try rfl) ?_; (with_reducible refine (spec_l20Rd_pick.calls k g s0_0 s0_1 3 t243 t244 w0 _ ?side1 ?side2 A3.out).mono ?_); (case side1 => repeat (first | (with_reducible first | exact HI0.out | apply IsS107.alloc | apply IsS107.drewN | apply IsS107.drew | apply IsS107.set_1 | refine IsS107.far ?_ NB0_242.out _) | exact HI0.out)); (case side2 => repeat (first | (with_reducible first | exact HB.out | apply na_ | apply nn_ | apply nw_ | refine bs_ ?_ (IsS107.ge HI0.out) | refine bs_ ?_ GE242.out) | exact HB.out)); rintro e w7 ⟨rfl, hi, hb, hk⟩; refine ⟨_, rfl, ?_⟩; replace BK242 := mk_ (KeepBut.blk hk (g' := gb242) (o := .cells #[.int .i64 0, .int .i64 0, .slice none 0 0, .slice none 0 0] 59 (0, 0)) (u_ BK242.out) NB242_0.out (by simp)); replace HK := mk_ (KeepBut.trans (by repeat (first | (with_reducible first | exact HK.out | apply KeepBut.set_ | apply keep_drewN | apply keep_drew | apply keep_alloc | refine keep_far ?_ GW242.out _) | exact HK.out)) hk (.inl rfl)); replace HB := mk_ (hb); replace HI0 := mk_ (hi); clear hA_ A3) | ((with_reducible refine gate_callee (f := 46) rfl ?_); have hA_ := A4.out; refine goesL_ (some 13) rfl rfl Try.func46 (by kernel_rfl) rfl #[.pointer (some ⟨g, 0, none⟩), .int .i64 20] rfl (by (try simp only [lm_, lo_, ln_]); try rfl) ?_; (with_reducible refine (spec_l20Rd_pick.calls k g s0_0 t244 20 t245 t246 w0 _ ?side1 ?side2 A4.out).mono ?_); (case side1 => repeat (first | (with_reducible first | exact HI0.out | apply IsS107.alloc | apply IsS107.drewN | apply IsS107.drew | apply IsS107.set_1 | refine IsS107.far ?_ NB0_242.out _) | exact HI0.out)); (case side2 => repeat (first | (with_reducible first | exact HB.out | apply na_ | apply nn_ | apply nw_ | refine bs_ ?_ (IsS107.ge HI0.out) | refine bs_ ?_ GE242.out) | exact HB.out)); rintro e w8 ⟨rfl, hi, hb, hk⟩; refine ⟨_, rfl, ?_⟩; replace BK242 := mk_ (KeepBut.blk hk (g' := gb242) (o := .cells #[.int .i64 0, .int .i64 0, .slice none 0 0, .slice none 0 0] 59 (0, 0)) (u_ BK242.out) NB242_0.out (by simp)); replace HK := mk_ (KeepBut.trans (by repeat (first | (with_reducible first | exact HK.out | apply KeepBut.set_ | apply keep_drewN | apply keep_drew | apply keep_alloc | refine keep_far ?_ GW242.out _) | exact HK.out)) hk (.inl rfl)); replace HB := mk_ (hb); replace HI0 := mk_ (hi); clear hA_ A4) | ((with_reducible refine gate_dst (N := 5) rfl ?_); refine box_event ?hg (N := 5) ?hd (cs := #[.int .i64 0, .int .i64 0, .slice none 0 0, .slice none 0 0]) (t := 59) ?hr ?_; (case hd => rfl); (case hg => rfl); (case hr => first | (go_simp; done) | (go_simp; rfl)); intro gb247 hg w9 hbox hb; have n0_ := mk_ (IsS107.below (by repeat (first | (with_reducible first | exact HI0.out | apply IsS107.alloc | apply IsS107.drewN | apply IsS107.drew | apply IsS107.set_1 | refine IsS107.far ?_ NB0_242.out _) | exact HI0.out)) hb); have n1_ := mk_ (blk_below (u_ BK242.out) hb); have n2_ := mk_ (KeepBut.trans (by repeat (first | (with_reducible first | exact HK.out | apply KeepBut.set_ | apply keep_drewN | apply keep_drew | apply keep_alloc | refine keep_far ?_ GW242.out _) | exact HK.out)) (KeepBut.of_below hb g none) (.inl rfl)); replace HB := mk_ (below_step (by repeat (first | (with_reducible first | exact HB.out | apply na_ | apply nn_ | apply nw_ | refine bs_ ?_ (IsS107.ge HI0.out) | refine bs_ ?_ GE242.out) | exact HB.out)) hb); have BK247 := mk_ (hbox); have GW247 := mk_ ((by rw [hg]; exact (keep_size (w := w) (g := g) (row := none) (by repeat (first | (with_reducible first | exact HK.out | apply KeepBut.set_ | apply keep_drewN | apply keep_drew | apply keep_alloc | refine keep_far ?_ GW242.out _) | exact HK.out))) : w.heap.size ≤ gb247)); have GE247 := ge_ ((Nat.le_trans HW0.out (by rw [hg]; exact (keep_size (w := w) (g := g) (row := none) (by repeat (first | (with_reducible first | exact HK.out | apply KeepBut.set_ | apply keep_drewN | apply keep_drew | apply keep_alloc | refine keep_far ?_ GW242.out _) | exact HK.out))) : w.heap.size ≤ gb247) : w0.heap.size ≤ gb247)); have NB242_247 := nq_ ((by rw [hg]; exact Nat.ne_of_lt (blk_lt (u_ BK242.out)) : gb242 ≠ gb247)); have NB247_242 := nq_ ((by rw [hg]; exact Nat.ne_of_gt (blk_lt (u_ BK242.out)) : gb247 ≠ gb242)); have NB0_247 := nq_ ((by rw [hg]; exact Nat.ne_of_lt (IsS107.lt (show IsS107 w0 _ g s0_0 t246 from by repeat (first | (with_reducible first | exact HI0.out | apply IsS107.alloc | apply IsS107.drewN | apply IsS107.drew | apply IsS107.set_1 | refine IsS107.far ?_ NB0_242.out _) | exact HI0.out))) : g ≠ gb247)); have NB247_0 := nq_ ((by rw [hg]; exact Nat.ne_of_gt (IsS107.lt (show IsS107 w0 _ g s0_0 t246 from by repeat (first | (with_reducible first | exact HI0.out | apply IsS107.alloc | apply IsS107.drewN | apply IsS107.drew | apply IsS107.set_1 | refine IsS107.far ?_ NB0_242.out _) | exact HI0.out))) : gb247 ≠ g)); replace HI0 := n0_; replace BK242 := n1_; replace HK := n2_; clear n0_ n1_ n2_; clear hb hbox hg; have hnb10 := NB247_242.out; have hnc10 := NB242_247.out; have hnb11 := NB247_0.out; have hnc11 := NB0_247.out; obtain ⟨hcz12_0, hcz12_1, hcz12_2, hcz12_3, hfz12_0, hfz12_1, hfz12_2, hfz12_3⟩ := cells4_ BK247.out) | ((with_reducible refine gate_callee (f := 46) rfl ?_); have hA_ := A5.out; refine goesL_ (some 17) rfl rfl Try.func46 (by kernel_rfl) rfl #[.pointer (some ⟨g, 0, none⟩), .int .i64 6] rfl (by (try simp only [lm_, lo_, ln_]); try rfl) ?_; (with_reducible refine (spec_l20Rd_pick.calls k g s0_0 t246 6 t248 t249 w0 _ ?side1 ?side2 A5.out).mono ?_); (case side1 => repeat (first | (with_reducible first | exact HI0.out | apply IsS107.alloc | apply IsS107.drewN | apply IsS107.drew | apply IsS107.set_1 | refine IsS107.far ?_ NB0_242.out _ | refine IsS107.far ?_ NB0_247.out _) | exact HI0.out)); (case side2 => repeat (first | (with_reducible first | exact HB.out | apply na_ | apply nn_ | apply nw_ | refine bs_ ?_ (IsS107.ge HI0.out) | refine bs_ ?_ GE242.out | refine bs_ ?_ GE247.out) | exact HB.out)); rintro e w13 ⟨rfl, hi, hb, hk⟩; refine ⟨_, rfl, ?_⟩; replace BK242 := mk_ (KeepBut.blk hk (g' := gb242) (o := .cells #[.int .i64 0, .int .i64 0, .slice none 0 0, .slice none 0 0] 59 (0, 0)) (uf_ BK242.out) NB242_0.out (by simp)); replace BK247 := mk_ (KeepBut.blk hk (g' := gb247) (o := .cells #[.int .i64 (wrap64 (100 + (wrap64 (t243 * 40)))), .int .i64 (wrap64 (4 + t245)), .slice none 0 0, .slice none 0 0] 59 (0, 0)) (by (with_reducible repeat (first | refine bn_ ?_ _ | refine bw_ ?_ | refine ba_ ?_ _)); refine blk_put (cs := #[.int .i64 (wrap64 (100 + (wrap64 (t243 * 40)))), .int .i64 (wrap64 (4 + t245)), .slice none 0 0, .slice none 0 0]) ?_ 3 _ rfl; (with_reducible repeat (first | refine bn_ ?_ _ | refine bw_ ?_ | refine ba_ ?_ _)); refine blk_put (cs := #[.int .i64 (wrap64 (100 + (wrap64 (t243 * 40)))), .int .i64 (wrap64 (4 + t245)), .slice none 0 0, .slice none 0 0]) ?_ 2 _ rfl; (with_reducible repeat (first | refine bn_ ?_ _ | refine bw_ ?_ | refine ba_ ?_ _)); refine blk_put (cs := #[.int .i64 (wrap64 (100 + (wrap64 (t243 * 40)))), .int .i64 0, .slice none 0 0, .slice none 0 0]) ?_ 1 _ rfl; (with_reducible repeat (first | refine bn_ ?_ _ | refine bw_ ?_ | refine ba_ ?_ _)); refine blk_put (cs := #[.int .i64 0, .int .i64 0, .slice none 0 0, .slice none 0 0]) ?_ 0 _ rfl; (with_reducible repeat (first | refine bn_ ?_ _ | refine bw_ ?_ | refine ba_ ?_ _)); exact BK247.out) NB247_0.out (by simp)); replace HK := mk_ (KeepBut.trans (by repeat (first | (with_reducible first | exact HK.out | apply KeepBut.set_ | apply keep_drewN | apply keep_drew | apply keep_alloc | refine keep_far ?_ GW242.out _ | refine keep_far ?_ GW247.out _) | exact HK.out)) hk (.inl rfl)); replace HB := mk_ (hb); replace HI0 := mk_ (hi); clear hA_ A5))
 go_loopg [6] k (fun kq v6 w' => ∃ (x6_1 : Int) (x1001_1 : Int) (x248000_1 : Int) (x248001_1 : Int) (x248002_1 : List Int) (x248003_1 : List (S68)) (u248002 : Value) (u248003 : Value), v6 = .int .i64 x6_1 ∧ Aside0 (spec_l20Ear.l0 kq a1 x6_1 s0_0 x1001_1 x248000_1 x248001_1 x248002_1 x248003_1 = some (r1, r2, r3, r4, r5)) ∧ Aside0 (kq ≤ k) ∧ Aside0 (Kd.R (Kd.int .u8) 5 w' w.heap.size (fun _ => True) u248002 x248002_1) ∧ Aside0 (Kd.Q k68 68 w' w.heap.size (fun _ => True) u248003 x248003_1) ∧ Aside0 (w'.heap[gb242]? = some (.cells #[.int .i64 0, .int .i64 0, (.slice none 0 0), (.slice none 0 0)] 59 (0, 0))) ∧ Aside0 (w'.heap[gb247]? = some (.cells #[.int .i64 x248000_1, .int .i64 x248001_1, u248002, u248003] 59 (0, 0))) ∧ Aside0 (IsS107 w0 w' g s0_0 x1001_1) ∧ Aside0 (KeepBut w w' g none) ∧ Aside0 (Below w0.heap.size w0 w'))
 case atStart => exact ⟨(t248), (t249), (wrap64 (100 + (wrap64 (t243 * 40)))), (wrap64 (4 + t245)), (([] : List Int)), (([] : List (S68))), (.slice none 0 0), (.slice none 0 0), (by first | rfl | (simp; done) | (simp [*]; done)), H', ⟨Nat.le_refl _⟩, ⟨by first | exact Kd.R_nil _ _ _ _ _ | exact Kd.N_nil _ _ _ _ _ | exact Kd.V_nil _ _ _ _ _ | exact Kd.Q_nil _ _ _ _ _ | exact Kd.S_nil _ _ _ _ _⟩, ⟨Kd.Q_of_R (by first | exact Kd.R_nil _ _ _ _ _ | exact Kd.N_nil _ _ _ _ _ | exact Kd.V_nil _ _ _ _ _ | exact Kd.Q_nil _ _ _ _ _ | exact Kd.S_nil _ _ _ _ _)⟩, ⟨u_ BK242.out⟩, ⟨u_ BK247.out⟩, ⟨by repeat (first | (with_reducible first | exact HI0.out | apply IsS107.alloc | apply IsS107.drewN | apply IsS107.drew | apply IsS107.set_1 | refine IsS107.far ?_ NB0_242.out _ | refine IsS107.far ?_ NB0_247.out _) | exact HI0.out)⟩, ⟨by repeat (first | (with_reducible first | exact HK.out | apply KeepBut.set_ | apply keep_drewN | apply keep_drew | apply keep_alloc | refine keep_far ?_ GW242.out _ | refine keep_far ?_ GW247.out _) | exact HK.out)⟩, ⟨by repeat (first | (with_reducible first | exact HB.out | apply na_ | apply nn_ | apply nw_ | refine bs_ ?_ (IsS107.ge HI0.out) | refine bs_ ?_ GE242.out | refine bs_ ?_ GE247.out) | exact HB.out)⟩⟩
 case round =>
  clear H'
  try clear c1
  try clear p2
  try clear c4
  try clear p6
  try clear c7
  try clear c10
  try clear c11
  try clear hcz12_0
  try clear hcz12_1
  try clear hcz12_2
  try clear hcz12_3
  try clear hfz12_0
  try clear hfz12_1
  try clear hfz12_2
  try clear hfz12_3
  obtain ⟨x6_1, x1001_1, x248000_1, x248001_1, x248002_1, x248003_1, u248002, u248003, rfl, HA, HK1, HO_248002, HO_248003, BK242, BK247, HI0, HK, HB⟩ := hrel
  cases gk with
  | zero => exact absurd HA.out (by simp [spec_l20Ear.l0])
  | succ k1 =>
   have H := HA.out
   clear HA
   simp only [spec_l20Ear.l0] at H
   by_cases c14 : x6_1 > 0
   rotate_left
   focus
    rw [if_neg c14] at H
    have c14b0 : decide (0 < x6_1) = false := decide_eq_false c14
    clear c14
    replace H := Option.bind_eq_some_iff.mp H
    obtain ⟨⟨t280, t281⟩, A640, H⟩ := H
    (try dsimp only at H)
    have A64 := mk_ A640
    clear A640
    by_cases c65 : t280 = true
    rotate_left
    focus
     replace c65 := Bool.eq_false_iff.mpr c65
     subst c65
     rw [if_neg (show ¬ (false = true) by decide)] at H
     simp only [Option.some.injEq, Prod.mk.injEq] at H
     obtain ⟨rfl, rfl, rfl, rfl, rfl⟩ := H
    rotate_left
    focus
     subst c65
     rw [if_pos rfl] at H
     replace H := Option.bind_eq_some_iff.mp H
     obtain ⟨⟨t282, t283⟩, A660, H⟩ := H
     (try dsimp only at H)
     have A66 := mk_ A660
     clear A660
     by_cases c67 : t282 = 0
     focus
      rw [if_pos c67] at H
      have c67b0 : (t282 == 0) = true := beq_iff_eq.mpr c67
      have c67b1 : (t282 != 0) = false := bne_eq_false_iff_eq.mpr c67
      clear c67
      replace H := Option.bind_eq_some_iff.mp H
      obtain ⟨⟨t284, t285⟩, A680, H⟩ := H
      replace H : (some (x248000_1, wrap64 (t284 * 33), x248002_1, x248003_1, t285)) = some (r1, r2, r3, r4, r5) := H
      have A68 := mk_ A680
      clear A680
      simp only [Option.some.injEq, Prod.mk.injEq] at H
      obtain ⟨rfl, rfl, rfl, rfl, rfl⟩ := H
     rotate_left
     focus
      rw [if_neg c67] at H
      have c67b0 : (t282 == 0) = false := beq_eq_false_iff_ne.mpr c67
      have c67b1 : (t282 != 0) = true := bne_iff_ne.mpr c67
      by_cases c79 : t282 = 1
      focus
       rw [if_pos c79] at H
       have c79b0 : (t282 == 1) = true := beq_iff_eq.mpr c79
       have c79b1 : (t282 != 1) = false := bne_eq_false_iff_eq.mpr c79
       clear c79
       simp only [Option.some.injEq, Prod.mk.injEq] at H
       obtain ⟨rfl, rfl, rfl, rfl, rfl⟩ := H
      rotate_left
      focus
       rw [if_neg c79] at H
       have c79b0 : (t282 == 1) = false := beq_eq_false_iff_ne.mpr c79
       have c79b1 : (t282 != 1) = true := bne_iff_ne.mpr c79
       by_cases c89 : t282 = 2
       rotate_left
       focus
        rw [if_neg c89] at H
        have c89b0 : (t282 == 2) = false := beq_eq_false_iff_ne.mpr c89
        have c89b1 : (t282 != 2) = true := bne_iff_ne.mpr c89
        by_cases c105 : x248002_1.length + 20 < 140737488355328
        rotate_left
        ·rw [if_neg c105] at H
         exact absurd H (by simp)
        rw [if_pos c105] at H
        have LMc105 := mk_ c105
        clear c105
        obtain ⟨y291, hy291⟩ : ∃ y_ : List Int, y_ = (x248002_1 ++ List.replicate 20 0) := ⟨_, rfl⟩
        replace H : (some (x248000_1, x248001_1, y291, x248003_1, t283)) = some (r1, r2, r3, r4, r5) := by first | (rw [hy291]; with_reducible exact H) | (have H2_ := (Option.bind_some _ _).symm.trans H; rw [hy291]; with_reducible exact H2_) | (have H2_ := (Option.bind_some _ _).symm.trans H; with_reducible exact H2_) | with_reducible exact H | (rw [hy291]; exact H) | exact H
        have Ny291 := mk_ hy291
        clear hy291
        simp only [Option.some.injEq, Prod.mk.injEq] at H
        obtain ⟨rfl, rfl, rfl, rfl, rfl⟩ := H
       rotate_left
       focus
        rw [if_pos c89] at H
        have c89b0 : (t282 == 2) = true := beq_iff_eq.mpr c89
        have c89b1 : (t282 != 2) = false := bne_eq_false_iff_eq.mpr c89
        clear c89
        replace H := Option.bind_eq_some_iff.mp H
        obtain ⟨⟨t286, t287⟩, A900, H⟩ := H
        (try dsimp only at H)
        have A90 := mk_ A900
        clear A900
        by_cases c91 : x248003_1.length < 8796093022208
        rotate_left
        ·rw [if_neg c91] at H
         exact absurd H (by simp)
        rw [if_pos c91] at H
        have LMc91 := mk_ c91
        clear c91
        obtain ⟨y288, hy288⟩ : ∃ y_ : List (S68), y_ = (x248003_1 ++ [(⟨wrap64 ((wrap64 (x248000_1 + t286)) - 3), 0⟩ : S68)]) := ⟨_, rfl⟩
        replace H : (some (x248000_1, x248001_1, x248002_1, y288, t287)) = some (r1, r2, r3, r4, r5) := by first | (rw [hy288]; with_reducible exact H) | (have H2_ := (Option.bind_some _ _).symm.trans H; rw [hy288]; with_reducible exact H2_) | (have H2_ := (Option.bind_some _ _).symm.trans H; with_reducible exact H2_) | with_reducible exact H | (rw [hy288]; exact H) | exact H
        have Ny288 := mk_ hy288
        clear hy288
        simp only [Option.some.injEq, Prod.mk.injEq] at H
        obtain ⟨rfl, rfl, rfl, rfl, rfl⟩ := H
       rotate_left
      rotate_left 2
     rotate_left 3
    rotate_left 4
   rotate_left 5
   focus
    rw [if_pos c14] at H
    have c14b0 : decide (0 < x6_1) = true := decide_eq_true c14
    clear c14
    replace H := Option.bind_eq_some_iff.mp H
    obtain ⟨⟨t250, t251⟩, A150, H⟩ := H
    (try dsimp only at H)
    have A15 := mk_ A150
    clear A150
    replace H := Option.bind_eq_some_iff.mp H
    obtain ⟨⟨t252, t253⟩, A160, H⟩ := H
    (try dsimp only at H)
    have A16 := mk_ A160
    clear A160
    replace H := Option.bind_eq_some_iff.mp H
    obtain ⟨t254, A170, H⟩ := H
    (try dsimp only at H)
    have A17 := mk_ A170
    clear A170
    replace H := Option.bind_eq_some_iff.mp H
    obtain ⟨⟨t257, t258, t259, t262⟩, A180, H⟩ := H
    (try dsimp only at H)
    have A18 := mk_ A180
    clear A180
    replace H := Option.bind_eq_some_iff.mp H
    obtain ⟨⟨t265, t266⟩, A190, H⟩ := H
    (try dsimp only at H)
    have A19 := mk_ A190
    clear A190
    by_cases c20 : t265 = 0
    rotate_left
    focus
     rw [if_neg c20] at H
     have c20b0 : (t265 == 0) = false := beq_eq_false_iff_ne.mpr c20
     have c20b1 : (t265 != 0) = true := bne_iff_ne.mpr c20
     have H' := mk_ H
     clear H
    rotate_left
    focus
     rw [if_pos c20] at H
     have c20b0 : (t265 == 0) = true := beq_iff_eq.mpr c20
     have c20b1 : (t265 != 0) = false := bne_eq_false_iff_eq.mpr c20
     clear c20
     replace H := Option.bind_eq_some_iff.mp H
     obtain ⟨⟨t267, t268⟩, A210, H⟩ := H
     (try dsimp only at H)
     have A21 := mk_ A210
     clear A210
     replace H := Option.bind_eq_some_iff.mp H
     obtain ⟨⟨t269, t270, t271, t274, t277⟩, A220, H⟩ := H
     replace H : (spec_l20Ear.l0 k1 a1 (wrap64 (x6_1 - 1)) s0_0 t268 t269 t270 t271 t274) = some (r1, r2, r3, r4, r5) := H
     have A22 := mk_ A220
     clear A220
     have H' := mk_ H
     clear H
    rotate_left
   rotate_left 2
   all_goals
    try go_wp2_with (first | ((with_reducible refine gate_callee (f := 90) rfl ?_); refine goesL_ (some 47) rfl rfl Try.func90 (by kernel_rfl) rfl #[.pointer (some ⟨g, 0, none⟩), .int .i64 a1] rfl (by (try simp only [lm_, lo_, ln_]); try rfl) ?_; (with_reducible refine (spec_l20Rd_odd.calls k1 g s0_0 x1001_1 a1 false t281 w0 _ ?side1 ?side2 A64.out).mono ?_); (case side1 => repeat (first | (with_reducible first | exact HI0.out | apply IsS107.alloc | apply IsS107.drewN | apply IsS107.drew | apply IsS107.set_1 | refine IsS107.far ?_ NB0_242.out _ | refine IsS107.far ?_ NB0_247.out _) | exact HI0.out)); (case side2 => repeat (first | (with_reducible first | exact HB.out | apply na_ | apply nn_ | apply nw_ | refine bs_ ?_ (IsS107.ge HI0.out) | refine bs_ ?_ GE242.out | refine bs_ ?_ GE247.out) | exact HB.out)); rintro e w31200 ⟨rfl, hi, hb, hk⟩; refine ⟨_, rfl, ?_⟩; replace HO_248002 := mk_ (Kd.R_mono (Kd.R_keep (IsS107.apart (show IsS107 w0 _ g s0_0 x1001_1 from by repeat (first | (with_reducible first | exact HI0.out | apply IsS107.alloc | apply IsS107.drewN | apply IsS107.drew | apply IsS107.set_1 | refine IsS107.far ?_ NB0_242.out _ | refine IsS107.far ?_ NB0_247.out _) | exact HI0.out)) (Kd.ur_ HO_248002.out) (by decide)) hk (fun _ h => h.2)) (fun _ h => h.1)); replace HO_248003 := mk_ (Kd.Q_mono (Kd.Q_keep (IsS107.apartQ (show IsS107 w0 _ g s0_0 x1001_1 from by repeat (first | (with_reducible first | exact HI0.out | apply IsS107.alloc | apply IsS107.drewN | apply IsS107.drew | apply IsS107.set_1 | refine IsS107.far ?_ NB0_242.out _ | refine IsS107.far ?_ NB0_247.out _) | exact HI0.out)) (by (with_reducible repeat (first | apply Kd.Q_alloc | apply Kd.Q_drewN | apply Kd.Q_drew)); exact HO_248003.out) (by decide)) hk (fun _ h => h.2)) (fun _ h => h.1)); replace BK242 := mk_ (KeepBut.blk hk (g' := gb242) (o := .cells #[.int .i64 0, .int .i64 0, .slice none 0 0, .slice none 0 0] 59 (0, 0)) (u_ BK242.out) NB242_0.out (by simp)); replace BK247 := mk_ (KeepBut.blk hk (g' := gb247) (o := .cells #[.int .i64 x248000_1, .int .i64 x248001_1, u248002, u248003] 59 (0, 0)) (u_ BK247.out) NB247_0.out (by simp)); replace HK := mk_ (KeepBut.trans (by repeat (first | (with_reducible first | exact HK.out | apply KeepBut.set_ | apply keep_drewN | apply keep_drew | apply keep_alloc | refine keep_far ?_ GW242.out _ | refine keep_far ?_ GW247.out _) | exact HK.out)) hk (.inl rfl)); replace HB := mk_ (hb); replace HI0 := mk_ (hi); have hnb7550242247 := NB247_242.out; have hnc7550242247 := NB242_247.out; have hnb75500247 := NB247_0.out; have hnc75500247 := NB0_247.out; obtain ⟨_, _, _, _, _, _, _, _⟩ := cells4_ BK247.out; have hnb75500242 := NB242_0.out; have hnc75500242 := NB0_242.out; obtain ⟨_, _, _, _, _, _, _, _⟩ := cells4_ BK242.out; obtain ⟨Ao31201, co31201, eo31201⟩ := Kd.R_slice HO_248002.out; subst eo31201; obtain ⟨Ao31202, co31202, eo31202, _⟩ := Kd.Q_slice HO_248003.out; subst eo31202) | ((with_reducible refine gate_callee (f := 90) rfl ?_); refine goesL_ (some 47) rfl rfl Try.func90 (by kernel_rfl) rfl #[.pointer (some ⟨g, 0, none⟩), .int .i64 a1] rfl (by (try simp only [lm_, lo_, ln_]); try rfl) ?_; (with_reducible refine (spec_l20Rd_odd.calls k1 g s0_0 x1001_1 a1 true t281 w0 _ ?side1 ?side2 A64.out).mono ?_); (case side1 => repeat (first | (with_reducible first | exact HI0.out | apply IsS107.alloc | apply IsS107.drewN | apply IsS107.drew | apply IsS107.set_1 | refine IsS107.far ?_ NB0_242.out _ | refine IsS107.far ?_ NB0_247.out _) | exact HI0.out)); (case side2 => repeat (first | (with_reducible first | exact HB.out | apply na_ | apply nn_ | apply nw_ | refine bs_ ?_ (IsS107.ge HI0.out) | refine bs_ ?_ GE242.out | refine bs_ ?_ GE247.out) | exact HB.out)); rintro e w31200 ⟨rfl, hi, hb, hk⟩; refine ⟨_, rfl, ?_⟩; replace HO_248002 := mk_ (Kd.R_mono (Kd.R_keep (IsS107.apart (show IsS107 w0 _ g s0_0 x1001_1 from by repeat (first | (with_reducible first | exact HI0.out | apply IsS107.alloc | apply IsS107.drewN | apply IsS107.drew | apply IsS107.set_1 | refine IsS107.far ?_ NB0_242.out _ | refine IsS107.far ?_ NB0_247.out _) | exact HI0.out)) (Kd.ur_ HO_248002.out) (by decide)) hk (fun _ h => h.2)) (fun _ h => h.1)); replace HO_248003 := mk_ (Kd.Q_mono (Kd.Q_keep (IsS107.apartQ (show IsS107 w0 _ g s0_0 x1001_1 from by repeat (first | (with_reducible first | exact HI0.out | apply IsS107.alloc | apply IsS107.drewN | apply IsS107.drew | apply IsS107.set_1 | refine IsS107.far ?_ NB0_242.out _ | refine IsS107.far ?_ NB0_247.out _) | exact HI0.out)) (by (with_reducible repeat (first | apply Kd.Q_alloc | apply Kd.Q_drewN | apply Kd.Q_drew)); exact HO_248003.out) (by decide)) hk (fun _ h => h.2)) (fun _ h => h.1)); replace BK242 := mk_ (KeepBut.blk hk (g' := gb242) (o := .cells #[.int .i64 0, .int .i64 0, .slice none 0 0, .slice none 0 0] 59 (0, 0)) (u_ BK242.out) NB242_0.out (by simp)); replace BK247 := mk_ (KeepBut.blk hk (g' := gb247) (o := .cells #[.int .i64 x248000_1, .int .i64 x248001_1, u248002, u248003] 59 (0, 0)) (u_ BK247.out) NB247_0.out (by simp)); replace HK := mk_ (KeepBut.trans (by repeat (first | (with_reducible first | exact HK.out | apply KeepBut.set_ | apply keep_drewN | apply keep_drew | apply keep_alloc | refine keep_far ?_ GW242.out _ | refine keep_far ?_ GW247.out _) | exact HK.out)) hk (.inl rfl)); replace HB := mk_ (hb); replace HI0 := mk_ (hi)) | ((with_reducible refine gate_callee (f := 46) rfl ?_); have hz_ : (t282 == 1) = true := c79b0; clear hz_; refine goesL_ (some 49) rfl rfl Try.func46 (by kernel_rfl) rfl #[.pointer (some ⟨g, 0, none⟩), .int .i64 4] rfl (by (try simp only [lm_, lo_, ln_]); try rfl) ?_; (with_reducible refine (spec_l20Rd_pick.calls k1 g s0_0 t281 4 t282 t283 w0 _ ?side1 ?side2 A66.out).mono ?_); (case side1 => repeat (first | (with_reducible first | exact HI0.out | apply IsS107.alloc | apply IsS107.drewN | apply IsS107.drew | apply IsS107.set_1 | refine IsS107.far ?_ NB0_242.out _ | refine IsS107.far ?_ NB0_247.out _) | exact HI0.out)); (case side2 => repeat (first | (with_reducible first | exact HB.out | apply na_ | apply nn_ | apply nw_ | refine bs_ ?_ (IsS107.ge HI0.out) | refine bs_ ?_ GE242.out | refine bs_ ?_ GE247.out) | exact HB.out)); rintro e w31240 ⟨rfl, hi, hb, hk⟩; refine ⟨_, rfl, ?_⟩; replace HO_248002 := mk_ (Kd.R_mono (Kd.R_keep (IsS107.apart (show IsS107 w0 _ g s0_0 t281 from by repeat (first | (with_reducible first | exact HI0.out | apply IsS107.alloc | apply IsS107.drewN | apply IsS107.drew | apply IsS107.set_1 | refine IsS107.far ?_ NB0_242.out _ | refine IsS107.far ?_ NB0_247.out _) | exact HI0.out)) (Kd.ur_ HO_248002.out) (by decide)) hk (fun _ h => h.2)) (fun _ h => h.1)); replace HO_248003 := mk_ (Kd.Q_mono (Kd.Q_keep (IsS107.apartQ (show IsS107 w0 _ g s0_0 t281 from by repeat (first | (with_reducible first | exact HI0.out | apply IsS107.alloc | apply IsS107.drewN | apply IsS107.drew | apply IsS107.set_1 | refine IsS107.far ?_ NB0_242.out _ | refine IsS107.far ?_ NB0_247.out _) | exact HI0.out)) (by (with_reducible repeat (first | apply Kd.Q_alloc | apply Kd.Q_drewN | apply Kd.Q_drew)); exact HO_248003.out) (by decide)) hk (fun _ h => h.2)) (fun _ h => h.1)); replace BK242 := mk_ (KeepBut.blk hk (g' := gb242) (o := .cells #[.int .i64 0, .int .i64 0, .slice none 0 0, .slice none 0 0] 59 (0, 0)) (u_ BK242.out) NB242_0.out (by simp)); replace BK247 := mk_ (KeepBut.blk hk (g' := gb247) (o := .cells #[.int .i64 x248000_1, .int .i64 x248001_1, u248002, u248003] 59 (0, 0)) (u_ BK247.out) NB247_0.out (by simp)); replace HK := mk_ (KeepBut.trans (by repeat (first | (with_reducible first | exact HK.out | apply KeepBut.set_ | apply keep_drewN | apply keep_drew | apply keep_alloc | refine keep_far ?_ GW242.out _ | refine keep_far ?_ GW247.out _) | exact HK.out)) hk (.inl rfl)); replace HB := mk_ (hb); replace HI0 := mk_ (hi); have hnb7560242247 := NB247_242.out; have hnc7560242247 := NB242_247.out; have hnb75600247 := NB247_0.out; have hnc75600247 := NB0_247.out; obtain ⟨_, _, _, _, _, _, _, _⟩ := cells4_ BK247.out; have hnb75600242 := NB242_0.out; have hnc75600242 := NB0_242.out; obtain ⟨_, _, _, _, _, _, _, _⟩ := cells4_ BK242.out; obtain ⟨Ao31241, co31241, eo31241⟩ := Kd.R_slice HO_248002.out; subst eo31241; obtain ⟨Ao31242, co31242, eo31242, _⟩ := Kd.Q_slice HO_248003.out; subst eo31242) | ((with_reducible refine gate_callee (f := 46) rfl ?_); have hA_ := A66.out; refine goesL_ (some 49) rfl rfl Try.func46 (by kernel_rfl) rfl #[.pointer (some ⟨g, 0, none⟩), .int .i64 4] rfl (by (try simp only [lm_, lo_, ln_]); try rfl) ?_; (with_reducible refine (spec_l20Rd_pick.calls k1 g s0_0 t281 4 t282 t283 w0 _ ?side1 ?side2 A66.out).mono ?_); (case side1 => repeat (first | (with_reducible first | exact HI0.out | apply IsS107.alloc | apply IsS107.drewN | apply IsS107.drew | apply IsS107.set_1 | refine IsS107.far ?_ NB0_242.out _ | refine IsS107.far ?_ NB0_247.out _) | exact HI0.out)); (case side2 => repeat (first | (with_reducible first | exact HB.out | apply na_ | apply nn_ | apply nw_ | refine bs_ ?_ (IsS107.ge HI0.out) | refine bs_ ?_ GE242.out | refine bs_ ?_ GE247.out) | exact HB.out)); rintro e w31240 ⟨rfl, hi, hb, hk⟩; refine ⟨_, rfl, ?_⟩; replace HO_248002 := mk_ (Kd.R_mono (Kd.R_keep (IsS107.apart (show IsS107 w0 _ g s0_0 t281 from by repeat (first | (with_reducible first | exact HI0.out | apply IsS107.alloc | apply IsS107.drewN | apply IsS107.drew | apply IsS107.set_1 | refine IsS107.far ?_ NB0_242.out _ | refine IsS107.far ?_ NB0_247.out _) | exact HI0.out)) (Kd.ur_ HO_248002.out) (by decide)) hk (fun _ h => h.2)) (fun _ h => h.1)); replace HO_248003 := mk_ (Kd.Q_mono (Kd.Q_keep (IsS107.apartQ (show IsS107 w0 _ g s0_0 t281 from by repeat (first | (with_reducible first | exact HI0.out | apply IsS107.alloc | apply IsS107.drewN | apply IsS107.drew | apply IsS107.set_1 | refine IsS107.far ?_ NB0_242.out _ | refine IsS107.far ?_ NB0_247.out _) | exact HI0.out)) (by (with_reducible repeat (first | apply Kd.Q_alloc | apply Kd.Q_drewN | apply Kd.Q_drew)); exact HO_248003.out) (by decide)) hk (fun _ h => h.2)) (fun _ h => h.1)); replace BK242 := mk_ (KeepBut.blk hk (g' := gb242) (o := .cells #[.int .i64 0, .int .i64 0, .slice none 0 0, .slice none 0 0] 59 (0, 0)) (u_ BK242.out) NB242_0.out (by simp)); replace BK247 := mk_ (KeepBut.blk hk (g' := gb247) (o := .cells #[.int .i64 x248000_1, .int .i64 x248001_1, u248002, u248003] 59 (0, 0)) (u_ BK247.out) NB247_0.out (by simp)); replace HK := mk_ (KeepBut.trans (by repeat (first | (with_reducible first | exact HK.out | apply KeepBut.set_ | apply keep_drewN | apply keep_drew | apply keep_alloc | refine keep_far ?_ GW242.out _ | refine keep_far ?_ GW247.out _) | exact HK.out)) hk (.inl rfl)); replace HB := mk_ (hb); replace HI0 := mk_ (hi); clear hA_ A66; have hnb7560242247 := NB247_242.out; have hnc7560242247 := NB242_247.out; have hnb75600247 := NB247_0.out; have hnc75600247 := NB0_247.out; obtain ⟨_, _, _, _, _, _, _, _⟩ := cells4_ BK247.out) | ((with_reducible refine gate_callee (f := 46) rfl ?_); have hA_ := A68.out; refine goesL_ (some 57) rfl rfl Try.func46 (by kernel_rfl) rfl #[.pointer (some ⟨g, 0, none⟩), .int .i64 2] rfl (by (try simp only [lm_, lo_, ln_]); try rfl) ?_; (with_reducible refine (spec_l20Rd_pick.calls k1 g s0_0 t283 2 t284 t285 w0 _ ?side1 ?side2 A68.out).mono ?_); (case side1 => repeat (first | (with_reducible first | exact HI0.out | apply IsS107.alloc | apply IsS107.drewN | apply IsS107.drew | apply IsS107.set_1 | refine IsS107.far ?_ NB0_242.out _ | refine IsS107.far ?_ NB0_247.out _) | exact HI0.out)); (case side2 => repeat (first | (with_reducible first | exact HB.out | apply na_ | apply nn_ | apply nw_ | refine bs_ ?_ (IsS107.ge HI0.out) | refine bs_ ?_ GE242.out | refine bs_ ?_ GE247.out) | exact HB.out)); rintro e w31280 ⟨rfl, hi, hb, hk⟩; refine ⟨_, rfl, ?_⟩; replace HO_248002 := mk_ (Kd.R_mono (Kd.R_keep (IsS107.apart (show IsS107 w0 _ g s0_0 t283 from by repeat (first | (with_reducible first | exact HI0.out | apply IsS107.alloc | apply IsS107.drewN | apply IsS107.drew | apply IsS107.set_1 | refine IsS107.far ?_ NB0_242.out _ | refine IsS107.far ?_ NB0_247.out _) | exact HI0.out)) (Kd.ur_ HO_248002.out) (by decide)) hk (fun _ h => h.2)) (fun _ h => h.1)); replace HO_248003 := mk_ (Kd.Q_mono (Kd.Q_keep (IsS107.apartQ (show IsS107 w0 _ g s0_0 t283 from by repeat (first | (with_reducible first | exact HI0.out | apply IsS107.alloc | apply IsS107.drewN | apply IsS107.drew | apply IsS107.set_1 | refine IsS107.far ?_ NB0_242.out _ | refine IsS107.far ?_ NB0_247.out _) | exact HI0.out)) (by (with_reducible repeat (first | apply Kd.Q_alloc | apply Kd.Q_drewN | apply Kd.Q_drew)); exact HO_248003.out) (by decide)) hk (fun _ h => h.2)) (fun _ h => h.1)); replace BK242 := mk_ (KeepBut.blk hk (g' := gb242) (o := .cells #[.int .i64 0, .int .i64 0, .slice none 0 0, .slice none 0 0] 59 (0, 0)) (u_ BK242.out) NB242_0.out (by simp)); replace BK247 := mk_ (KeepBut.blk hk (g' := gb247) (o := .cells #[.int .i64 x248000_1, .int .i64 x248001_1, u248002, u248003] 59 (0, 0)) (u_ BK247.out) NB247_0.out (by simp)); replace HK := mk_ (KeepBut.trans (by repeat (first | (with_reducible first | exact HK.out | apply KeepBut.set_ | apply keep_drewN | apply keep_drew | apply keep_alloc | refine keep_far ?_ GW242.out _ | refine keep_far ?_ GW247.out _) | exact HK.out)) hk (.inl rfl)); replace HB := mk_ (hb); replace HI0 := mk_ (hi); have hnb7570242247 := NB247_242.out; have hnc7570242247 := NB242_247.out; have hnb75700247 := NB247_0.out; have hnc75700247 := NB0_247.out; obtain ⟨_, _, _, _, _, _, _, _⟩ := cells4_ BK247.out; have hnb75700242 := NB242_0.out; have hnc75700242 := NB0_242.out; obtain ⟨_, _, _, _, _, _, _, _⟩ := cells4_ BK242.out; obtain ⟨Ao31281, co31281, eo31281⟩ := Kd.R_slice HO_248002.out; subst eo31281; obtain ⟨Ao31282, co31282, eo31282, _⟩ := Kd.Q_slice HO_248003.out; subst eo31282; clear hA_ A68) | (at_builtin; refine Kd.R_append_zeros (Kd.int .u8) w.heap.size rfl (.tmp 51) (.const (.int .i64 20)) 22 3 5 (.int .u8 0) 1 rfl Try.underlying22 Try.underlying3 info5 rfl (by decide) (by omega) u248002 x248002_1 0 (20 : Int) (fun _ => True) rfl rfl rfl ?aF ?aO (by omega) (Below.refl _ _) ?aS ?aL ?_; (case aF => exact (fun _ _ => trivial)); (case aO => exact (Kd.ur_ HO_248002.out)); (case aS => exact (keep_size (w := w) (g := g) (row := none) (by repeat (first | (with_reducible first | exact HK.out | apply KeepBut.set_ | apply keep_drewN | apply keep_drew | apply keep_alloc | refine keep_far ?_ GW242.out _ | refine keep_far ?_ GW247.out _) | exact HK.out)))); (case aL => have := LMc105.out; omega); intro v31320 w31321 ho hb hg hat; rw [show Int.toNat 20 = 20 from rfl, ← Ny291.out] at ho; replace HO_248003 := mk_ (Kd.Q_over' (by (with_reducible repeat (first | apply Kd.Q_alloc | apply Kd.Q_drewN | apply Kd.Q_drew)); exact HO_248003.out) (Kd.R_typed (Kd.ur_ HO_248002.out)) (by decide) hg); replace BK242 := mk_ (blk_grown (g := gb242) (o := .cells #[.int .i64 0, .int .i64 0, .slice none 0 0, .slice none 0 0] 59 (0, 0)) (u_ BK242.out) hg (Kd.R_ne HO_248002.out BK242.out (by decide))); replace BK247 := mk_ (blk_grown (g := gb247) (o := .cells #[.int .i64 x248000_1, .int .i64 x248001_1, u248002, u248003] 59 (0, 0)) (u_ BK247.out) hg (Kd.R_ne HO_248002.out BK247.out (by decide))); have n3_ := mk_ (IsS107.grown (by repeat (first | (with_reducible first | exact HI0.out | apply IsS107.alloc | apply IsS107.drewN | apply IsS107.drew | apply IsS107.set_1 | refine IsS107.far ?_ NB0_242.out _ | refine IsS107.far ?_ NB0_247.out _) | exact HI0.out)) hg (IsS107.own_ne HI0.out HO_248002.out (by decide))); replace HB := mk_ (below_weaken (by repeat (first | (with_reducible first | exact HB.out | apply na_ | apply nn_ | apply nw_ | refine bs_ ?_ (IsS107.ge HI0.out) | refine bs_ ?_ GE242.out | refine bs_ ?_ GE247.out) | exact HB.out)) HL.out hb); replace HK := mk_ (KeepBut.trans (by repeat (first | (with_reducible first | exact HK.out | apply KeepBut.set_ | apply keep_drewN | apply keep_drew | apply keep_alloc | refine keep_far ?_ GW242.out _ | refine keep_far ?_ GW247.out _) | exact HK.out)) (KeepBut.of_grown hg g) (Kd.R_base2 HO_248002.out)); have HO293 := mk_ (ho); replace HI0 := n3_; clear n3_; clear HO_248002; clear ho hb hg hat; obtain ⟨Ao7580293, co7580293, eo7580293⟩ := Kd.R_slice HO293.out; subst eo7580293; obtain ⟨_, _, _, _, _, _, _, _⟩ := cells4_ BK247.out; have hnb75800242 := NB242_0.out; have hnc75800242 := NB0_242.out; obtain ⟨_, _, _, _, _, _, _, _⟩ := cells4_ BK242.out; obtain ⟨Ao31322, co31322, eo31322, _⟩ := Kd.Q_slice HO_248003.out; subst eo31322))
   ·refine bodyPost_ret (results_cell_row rfl _ _ gb242 59 #[.int .i64 x248000_1, .int .i64 x248001_1, .slice Ao31201 x248002_1.length co31201, .slice Ao31202 x248003_1.length co31202] (0, 0) _ rfl (by (with_reducible repeat (first | refine bn_ ?_ _ | refine bw_ ?_ | refine ba_ ?_ _)); refine blk_put (cs := #[.int .i64 x248000_1, .int .i64 x248001_1, .slice Ao31201 x248002_1.length co31201, .slice none 0 0]) ?_ 3 _ rfl; (with_reducible repeat (first | refine bn_ ?_ _ | refine bw_ ?_ | refine ba_ ?_ _)); refine blk_put (cs := #[.int .i64 x248000_1, .int .i64 x248001_1, .slice none 0 0, .slice none 0 0]) ?_ 2 _ rfl; (with_reducible repeat (first | refine bn_ ?_ _ | refine bw_ ?_ | refine ba_ ?_ _)); refine blk_put (cs := #[.int .i64 x248000_1, .int .i64 0, .slice none 0 0, .slice none 0 0]) ?_ 1 _ rfl; (with_reducible repeat (first | refine bn_ ?_ _ | refine bw_ ?_ | refine ba_ ?_ _)); refine blk_put (cs := #[.int .i64 0, .int .i64 0, .slice none 0 0, .slice none 0 0]) ?_ 0 _ rfl; (with_reducible repeat (first | refine bn_ ?_ _ | refine bw_ ?_ | refine ba_ ?_ _)); exact BK242.out) Try.underlying59 rfl (by kernel_rfl)) rfl ?_
    exact ⟨_, _, by first | rfl | (simp [errW_none, errW_some] <;> rfl) | (simp [*, errW_none, errW_some] <;> rfl), by (with_reducible repeat (first | apply Kd.R_alloc | apply Kd.R_drewN | apply Kd.R_drew)); exact Kd.R_mono (Kd.R_far (p := ⟨gb242, 3, none⟩) (Kd.R_far (p := ⟨gb242, 2, none⟩) (Kd.R_far (p := ⟨gb242, 1, none⟩) (Kd.R_far (p := ⟨gb242, 0, none⟩) (Kd.R_types HO_248002.out BK242.out (by decide)) (fun _ hk => hk.2) (.int .i64 x248000_1)) (fun _ hk => hk.2) (.int .i64 x248001_1)) (fun _ hk => hk.2) (.slice Ao31201 x248002_1.length co31201)) (fun _ hk => hk.2) (.slice Ao31202 x248003_1.length co31202)) (fun _ hk => trivial), by (with_reducible repeat (first | apply Kd.Q_alloc | apply Kd.Q_drewN | apply Kd.Q_drew)); exact Kd.Q_mono (Kd.Q_far (p := ⟨gb242, 3, none⟩) (Kd.Q_far (p := ⟨gb242, 2, none⟩) (Kd.Q_far (p := ⟨gb242, 1, none⟩) (Kd.Q_far (p := ⟨gb242, 0, none⟩) (Kd.Q_types HO_248003.out BK242.out (by decide)) (fun _ hk => hk.2) (.int .i64 x248000_1)) (fun _ hk => hk.2) (.int .i64 x248001_1)) (fun _ hk => hk.2) (.slice Ao31201 x248002_1.length co31201)) (fun _ hk => hk.2) (.slice Ao31202 x248003_1.length co31202)) (fun _ hk => trivial), by repeat (first | (with_reducible first | exact HI0.out | apply IsS107.alloc | apply IsS107.drewN | apply IsS107.drew | apply IsS107.set_1 | refine IsS107.far ?_ NB0_242.out _ | refine IsS107.far ?_ NB0_247.out _) | exact HI0.out), by repeat (first | (with_reducible first | exact HB.out | apply na_ | apply nn_ | apply nw_ | refine bs_ ?_ (IsS107.ge HI0.out) | refine bs_ ?_ GE242.out | refine bs_ ?_ GE247.out) | exact HB.out), by repeat (first | (with_reducible first | exact HK.out | apply KeepBut.set_ | apply keep_drewN | apply keep_drew | apply keep_alloc | refine keep_far ?_ GW242.out _ | refine keep_far ?_ GW247.out _) | exact HK.out)⟩
   ·refine bodyPost_ret (results_cell_row rfl _ _ gb242 59 #[.int .i64 x248000_1, .int .i64 (wrap64 (t284 * 33)), .slice Ao31281 x248002_1.length co31281, .slice Ao31282 x248003_1.length co31282] (0, 0) _ rfl (by (with_reducible repeat (first | refine bn_ ?_ _ | refine bw_ ?_ | refine ba_ ?_ _)); refine blk_put (cs := #[.int .i64 x248000_1, .int .i64 (wrap64 (t284 * 33)), .slice Ao31281 x248002_1.length co31281, .slice none 0 0]) ?_ 3 _ rfl; (with_reducible repeat (first | refine bn_ ?_ _ | refine bw_ ?_ | refine ba_ ?_ _)); refine blk_put (cs := #[.int .i64 x248000_1, .int .i64 (wrap64 (t284 * 33)), .slice none 0 0, .slice none 0 0]) ?_ 2 _ rfl; (with_reducible repeat (first | refine bn_ ?_ _ | refine bw_ ?_ | refine ba_ ?_ _)); refine blk_put (cs := #[.int .i64 x248000_1, .int .i64 0, .slice none 0 0, .slice none 0 0]) ?_ 1 _ rfl; (with_reducible repeat (first | refine bn_ ?_ _ | refine bw_ ?_ | refine ba_ ?_ _)); refine blk_put (cs := #[.int .i64 0, .int .i64 0, .slice none 0 0, .slice none 0 0]) ?_ 0 _ rfl; (with_reducible repeat (first | refine bn_ ?_ _ | refine bw_ ?_ | refine ba_ ?_ _)); refine blk_far ?_ NB242_247.out _; (with_reducible repeat (first | refine bn_ ?_ _ | refine bw_ ?_ | refine ba_ ?_ _)); exact BK242.out) Try.underlying59 rfl (by kernel_rfl)) rfl ?_
    exact ⟨_, _, by first | rfl | (simp [errW_none, errW_some] <;> rfl) | (simp [*, errW_none, errW_some] <;> rfl), by (with_reducible repeat (first | apply Kd.R_alloc | apply Kd.R_drewN | apply Kd.R_drew)); exact Kd.R_mono (Kd.R_far (p := ⟨gb242, 3, none⟩) (Kd.R_far (p := ⟨gb242, 2, none⟩) (Kd.R_far (p := ⟨gb242, 1, none⟩) (Kd.R_far (p := ⟨gb242, 0, none⟩) (Kd.R_far (p := ⟨gb247, 1, none⟩) (Kd.R_types (Kd.R_types HO_248002.out BK247.out (by decide)) BK242.out (by decide)) (fun _ hk => hk.1.2) (.int .i64 (wrap64 (t284 * 33)))) (fun _ hk => hk.2) (.int .i64 x248000_1)) (fun _ hk => hk.2) (.int .i64 (wrap64 (t284 * 33)))) (fun _ hk => hk.2) (.slice Ao31281 x248002_1.length co31281)) (fun _ hk => hk.2) (.slice Ao31282 x248003_1.length co31282)) (fun _ hk => trivial), by (with_reducible repeat (first | apply Kd.Q_alloc | apply Kd.Q_drewN | apply Kd.Q_drew)); exact Kd.Q_mono (Kd.Q_far (p := ⟨gb242, 3, none⟩) (Kd.Q_far (p := ⟨gb242, 2, none⟩) (Kd.Q_far (p := ⟨gb242, 1, none⟩) (Kd.Q_far (p := ⟨gb242, 0, none⟩) (Kd.Q_far (p := ⟨gb247, 1, none⟩) (Kd.Q_types (Kd.Q_types HO_248003.out BK247.out (by decide)) BK242.out (by decide)) (fun _ hk => hk.1.2) (.int .i64 (wrap64 (t284 * 33)))) (fun _ hk => hk.2) (.int .i64 x248000_1)) (fun _ hk => hk.2) (.int .i64 (wrap64 (t284 * 33)))) (fun _ hk => hk.2) (.slice Ao31281 x248002_1.length co31281)) (fun _ hk => hk.2) (.slice Ao31282 x248003_1.length co31282)) (fun _ hk => trivial), by repeat (first | (with_reducible first | exact HI0.out | apply IsS107.alloc | apply IsS107.drewN | apply IsS107.drew | apply IsS107.set_1 | refine IsS107.far ?_ NB0_242.out _ | refine IsS107.far ?_ NB0_247.out _) | exact HI0.out), by repeat (first | (with_reducible first | exact HB.out | apply na_ | apply nn_ | apply nw_ | refine bs_ ?_ (IsS107.ge HI0.out) | refine bs_ ?_ GE242.out | refine bs_ ?_ GE247.out) | exact HB.out), by repeat (first | (with_reducible first | exact HK.out | apply KeepBut.set_ | apply keep_drewN | apply keep_drew | apply keep_alloc | refine keep_far ?_ GW242.out _ | refine keep_far ?_ GW247.out _) | exact HK.out)⟩
   ·refine bodyPost_ret (results_cell_row rfl _ _ gb242 59 #[.int .i64 (-1), .int .i64 x248001_1, .slice Ao31241 x248002_1.length co31241, .slice Ao31242 x248003_1.length co31242] (0, 0) _ rfl (by (with_reducible repeat (first | refine bn_ ?_ _ | refine bw_ ?_ | refine ba_ ?_ _)); refine blk_put (cs := #[.int .i64 (-1), .int .i64 x248001_1, .slice Ao31241 x248002_1.length co31241, .slice none 0 0]) ?_ 3 _ rfl; (with_reducible repeat (first | refine bn_ ?_ _ | refine bw_ ?_ | refine ba_ ?_ _)); refine blk_put (cs := #[.int .i64 (-1), .int .i64 x248001_1, .slice none 0 0, .slice none 0 0]) ?_ 2 _ rfl; (with_reducible repeat (first | refine bn_ ?_ _ | refine bw_ ?_ | refine ba_ ?_ _)); refine blk_put (cs := #[.int .i64 (-1), .int .i64 0, .slice none 0 0, .slice none 0 0]) ?_ 1 _ rfl; (with_reducible repeat (first | refine bn_ ?_ _ | refine bw_ ?_ | refine ba_ ?_ _)); refine blk_put (cs := #[.int .i64 0, .int .i64 0, .slice none 0 0, .slice none 0 0]) ?_ 0 _ rfl; (with_reducible repeat (first | refine bn_ ?_ _ | refine bw_ ?_ | refine ba_ ?_ _)); refine blk_far ?_ NB242_247.out _; (with_reducible repeat (first | refine bn_ ?_ _ | refine bw_ ?_ | refine ba_ ?_ _)); exact BK242.out) Try.underlying59 rfl (by kernel_rfl)) rfl ?_
    exact ⟨_, _, by first | rfl | (simp [errW_none, errW_some] <;> rfl) | (simp [*, errW_none, errW_some] <;> rfl), by (with_reducible repeat (first | apply Kd.R_alloc | apply Kd.R_drewN | apply Kd.R_drew)); exact Kd.R_mono (Kd.R_far (p := ⟨gb242, 3, none⟩) (Kd.R_far (p := ⟨gb242, 2, none⟩) (Kd.R_far (p := ⟨gb242, 1, none⟩) (Kd.R_far (p := ⟨gb242, 0, none⟩) (Kd.R_far (p := ⟨gb247, 0, none⟩) (Kd.R_types (Kd.R_types HO_248002.out BK247.out (by decide)) BK242.out (by decide)) (fun _ hk => hk.1.2) (.int .i64 (-1))) (fun _ hk => hk.2) (.int .i64 (-1))) (fun _ hk => hk.2) (.int .i64 x248001_1)) (fun _ hk => hk.2) (.slice Ao31241 x248002_1.length co31241)) (fun _ hk => hk.2) (.slice Ao31242 x248003_1.length co31242)) (fun _ hk => trivial), by (with_reducible repeat (first | apply Kd.Q_alloc | apply Kd.Q_drewN | apply Kd.Q_drew)); exact Kd.Q_mono (Kd.Q_far (p := ⟨gb242, 3, none⟩) (Kd.Q_far (p := ⟨gb242, 2, none⟩) (Kd.Q_far (p := ⟨gb242, 1, none⟩) (Kd.Q_far (p := ⟨gb242, 0, none⟩) (Kd.Q_far (p := ⟨gb247, 0, none⟩) (Kd.Q_types (Kd.Q_types HO_248003.out BK247.out (by decide)) BK242.out (by decide)) (fun _ hk => hk.1.2) (.int .i64 (-1))) (fun _ hk => hk.2) (.int .i64 (-1))) (fun _ hk => hk.2) (.int .i64 x248001_1)) (fun _ hk => hk.2) (.slice Ao31241 x248002_1.length co31241)) (fun _ hk => hk.2) (.slice Ao31242 x248003_1.length co31242)) (fun _ hk => trivial), by repeat (first | (with_reducible first | exact HI0.out | apply IsS107.alloc | apply IsS107.drewN | apply IsS107.drew | apply IsS107.set_1 | refine IsS107.far ?_ NB0_242.out _ | refine IsS107.far ?_ NB0_247.out _) | exact HI0.out), by repeat (first | (with_reducible first | exact HB.out | apply na_ | apply nn_ | apply nw_ | refine bs_ ?_ (IsS107.ge HI0.out) | refine bs_ ?_ GE242.out | refine bs_ ?_ GE247.out) | exact HB.out), by repeat (first | (with_reducible first | exact HK.out | apply KeepBut.set_ | apply keep_drewN | apply keep_drew | apply keep_alloc | refine keep_far ?_ GW242.out _ | refine keep_far ?_ GW247.out _) | exact HK.out)⟩
   ·refine bodyPost_ret (results_cell_row rfl _ _ gb242 59 #[.int .i64 x248000_1, .int .i64 x248001_1, .slice Ao7580293 y291.length co7580293, .slice Ao31322 x248003_1.length co31322] (0, 0) _ rfl (by (with_reducible repeat (first | refine bn_ ?_ _ | refine bw_ ?_ | refine ba_ ?_ _)); refine blk_put (cs := #[.int .i64 x248000_1, .int .i64 x248001_1, .slice Ao7580293 y291.length co7580293, .slice none 0 0]) ?_ 3 _ rfl; (with_reducible repeat (first | refine bn_ ?_ _ | refine bw_ ?_ | refine ba_ ?_ _)); refine blk_put (cs := #[.int .i64 x248000_1, .int .i64 x248001_1, .slice none 0 0, .slice none 0 0]) ?_ 2 _ rfl; (with_reducible repeat (first | refine bn_ ?_ _ | refine bw_ ?_ | refine ba_ ?_ _)); refine blk_put (cs := #[.int .i64 x248000_1, .int .i64 0, .slice none 0 0, .slice none 0 0]) ?_ 1 _ rfl; (with_reducible repeat (first | refine bn_ ?_ _ | refine bw_ ?_ | refine ba_ ?_ _)); refine blk_put (cs := #[.int .i64 0, .int .i64 0, .slice none 0 0, .slice none 0 0]) ?_ 0 _ rfl; (with_reducible repeat (first | refine bn_ ?_ _ | refine bw_ ?_ | refine ba_ ?_ _)); refine blk_far ?_ NB242_247.out _; (with_reducible repeat (first | refine bn_ ?_ _ | refine bw_ ?_ | refine ba_ ?_ _)); exact BK242.out) Try.underlying59 rfl (by kernel_rfl)) rfl ?_
    exact ⟨_, _, by first | rfl | (simp [errW_none, errW_some] <;> rfl) | (simp [*, errW_none, errW_some] <;> rfl), by (with_reducible repeat (first | apply Kd.R_alloc | apply Kd.R_drewN | apply Kd.R_drew)); exact Kd.R_mono (Kd.R_far (p := ⟨gb242, 3, none⟩) (Kd.R_far (p := ⟨gb242, 2, none⟩) (Kd.R_far (p := ⟨gb242, 1, none⟩) (Kd.R_far (p := ⟨gb242, 0, none⟩) (Kd.R_far (p := ⟨gb247, 2, none⟩) (Kd.R_types (Kd.R_types HO293.out BK247.out (by decide)) BK242.out (by decide)) (fun _ hk => hk.1.2) (.slice Ao7580293 y291.length co7580293)) (fun _ hk => hk.2) (.int .i64 x248000_1)) (fun _ hk => hk.2) (.int .i64 x248001_1)) (fun _ hk => hk.2) (.slice Ao7580293 y291.length co7580293)) (fun _ hk => hk.2) (.slice Ao31322 x248003_1.length co31322)) (fun _ hk => trivial), by (with_reducible repeat (first | apply Kd.Q_alloc | apply Kd.Q_drewN | apply Kd.Q_drew)); exact Kd.Q_mono (Kd.Q_far (p := ⟨gb242, 3, none⟩) (Kd.Q_far (p := ⟨gb242, 2, none⟩) (Kd.Q_far (p := ⟨gb242, 1, none⟩) (Kd.Q_far (p := ⟨gb242, 0, none⟩) (Kd.Q_far (p := ⟨gb247, 2, none⟩) (Kd.Q_types (Kd.Q_types HO_248003.out BK247.out (by decide)) BK242.out (by decide)) (fun _ hk => hk.1.2) (.slice Ao7580293 y291.length co7580293)) (fun _ hk => hk.2) (.int .i64 x248000_1)) (fun _ hk => hk.2) (.int .i64 x248001_1)) (fun _ hk => hk.2) (.slice Ao7580293 y291.length co7580293)) (fun _ hk => hk.2) (.slice Ao31322 x248003_1.length co31322)) (fun _ hk => trivial), by repeat (first | (with_reducible first | exact HI0.out | apply IsS107.alloc | apply IsS107.drewN | apply IsS107.drew | apply IsS107.set_1 | refine IsS107.far ?_ NB0_242.out _ | refine IsS107.far ?_ NB0_247.out _) | exact HI0.out), by repeat (first | (with_reducible first | exact HB.out | apply na_ | apply nn_ | apply nw_ | refine bs_ ?_ (IsS107.ge HI0.out) | refine bs_ ?_ GE242.out | refine bs_ ?_ GE247.out) | exact HB.out), by repeat (first | (with_reducible first | exact HK.out | apply KeepBut.set_ | apply keep_drewN | apply keep_drew | apply keep_alloc | refine keep_far ?_ GW242.out _ | refine keep_far ?_ GW247.out _) | exact HK.out)⟩
   all_goals
    have n0_ := mk_ (Kd.R_drew HO_248002.out)
    have n1_ := mk_ (Kd.Q_drew HO_248003.out)
    have n2_ := mk_ (blk_drew BK242.out)
    have n3_ := mk_ (blk_drew BK247.out)
    have n4_ := mk_ (IsS107.drew HI0.out)
    have n5_ := mk_ (keep_drew HK.out)
    have n6_ := mk_ (below_drew1 HB.out)
    clear HO_248002
    clear HO_248003
    clear BK242
    clear BK247
    clear HI0
    clear HK
    clear HB
    have HO_248002 := n0_
    have HO_248003 := n1_
    have BK242 := n2_
    have BK247 := n3_
    have HI0 := n4_
    have HK := n5_
    have HB := n6_
    clear n0_ n1_ n2_ n3_ n4_ n5_ n6_
   ·refine start_ (n := 13) (S := fun w' => w'.cell? ⟨gb247, 0, none⟩ = some (.int .i64 x248000_1) ∧ w'.cell? ⟨gb247, 1, none⟩ = some (.int .i64 x248001_1) ∧ w'.cell? ⟨gb247, 2, none⟩ = some (u248002) ∧ w'.cell? ⟨gb247, 3, none⟩ = some (u248003)) (ds := [12]) #[F_, F_, F_, F_, F_, F_, F_, F_, F_, F_, F_, F_, F_] (by kernel_rfl) rfl rfl ⟨(blk_cell BK247.out 0).trans rfl, (blk_cell BK247.out 1).trans rfl, (blk_cell BK247.out 2).trans rfl, (blk_cell BK247.out 3).trans rfl⟩ (fun hHeld => ?_); refine with_tabW spec_l20Ear.tab17 spec_l20Ear.bits17 (fun HT_ HW_ => ?_)
    generalize w31240.drew = w26240 at HO_248002 HO_248003 BK242 BK247 HI0 HK HB hHeld ⊢
    refine pure_ (i := 0) (N := some 65) (v := ?_) (a' := ?_) #[T_, F_, F_, F_, F_, F_, F_, F_, F_, F_, F_, F_, F_] rfl rfl (any_of HT_.out (by kernel_rfl)) (fun _ _ _ h => h) (Or.inl ⟨by rfl, ?_⟩) ?_ ?_
    rotate_left
    ·intro w'
     go_simp
     with_reducible rfl
    rotate_left
    ·simp only [Act.put, la_, lz_, ls_, i64_w, i32_w]
     rfl
    refine pure_ (i := 2) (N := some 67) (v := ?_) (a' := ?_) #[T_, F_, T_, F_, F_, F_, F_, F_, F_, F_, F_, F_, F_] rfl rfl (any_of HT_.out (by kernel_rfl)) (fun _ _ _ h => h) (Or.inl ⟨by rfl, ?_⟩) ?_ ?_
    rotate_left
    ·intro w'
     go_simp
     with_reducible rfl
    rotate_left
    ·simp only [Act.put, la_, lz_, ls_, i64_w, i32_w]
     rfl
    refine pure_ (i := 4) (N := some 69) (v := ?_) (a' := ?_) #[T_, F_, T_, F_, T_, F_, F_, F_, F_, F_, F_, F_, F_] rfl rfl (any_of HT_.out (by kernel_rfl)) (fun _ _ _ h => h) (Or.inl ⟨by rfl, ?_⟩) ?_ ?_
    rotate_left
    ·intro w'
     go_simp
     with_reducible rfl
    rotate_left
    ·simp only [Act.put, la_, lz_, ls_, i64_w, i32_w]
     rfl
    refine take_ (i := 1) (N := some 66) (v := ?_) (a' := ?_) #[T_, T_, T_, F_, T_, F_, F_, F_, F_, F_, F_, F_, F_] rfl rfl (take_ofW HT_.out HW_.out (by kernel_rfl)) (fun _ _ _ h => h) (Or.inl ⟨by rfl, ?_⟩) hHeld ?_ ?_
    rotate_left
    ·rintro w' ⟨s16960, s16961, s16962, s16963⟩
     go_simp
     with_reducible rfl
    rotate_left
    ·simp only [Act.put, la_, lz_, ls_, i64_w, i32_w]
     rfl
    refine take_ (i := 3) (N := some 68) (v := ?_) (a' := ?_) #[T_, T_, T_, T_, T_, F_, F_, F_, F_, F_, F_, F_, F_] rfl rfl (take_ofW HT_.out HW_.out (by kernel_rfl)) (fun _ _ _ h => h) (Or.inl ⟨by rfl, ?_⟩) hHeld ?_ ?_
    rotate_left
    ·rintro w' ⟨s16960, s16961, s16962, s16963⟩
     go_simp
     with_reducible rfl
    rotate_left
    ·simp only [Act.put, la_, lz_, ls_, i64_w, i32_w]
     rfl
    refine one_ (i := 5) (N := some 70) #[T_, T_, T_, T_, T_, T_, F_, F_, F_, F_, F_, F_, F_] rfl rfl (one_of HT_.out (by kernel_rfl)) (by decide) (fun K hK => ?_)
    refine goes_ Try.func46 (by kernel_rfl) rfl #[.pointer (some ⟨g, 0, none⟩), .int .i64 40] (by rfl) rfl rfl (by (try simp only [lm_, lo_, ln_]); try rfl) ?_
    with_reducible refine (spec_l20Rd_pick.calls k1 g s0_0 t283 40 t286 t287 w0 _ ?side1 ?side2 A90.out).mono ?_
    (case side1 => repeat (first | (with_reducible first | exact HI0.out | apply IsS107.alloc | apply IsS107.drewN | apply IsS107.drew | apply IsS107.set_1 | refine IsS107.far ?_ NB0_242.out _ | refine IsS107.far ?_ NB0_247.out _) | exact HI0.out))
    (case side2 => repeat (first | (with_reducible first | exact HB.out | apply na_ | apply nn_ | apply nw_ | refine bs_ ?_ (IsS107.ge HI0.out) | refine bs_ ?_ GE242.out | refine bs_ ?_ GE247.out) | exact HB.out))
    rintro e w31800 ⟨rfl, hi, hb, hk⟩
    refine ⟨_, rfl, ?_⟩
    have n0_ := mk_ (Kd.R_mono (Kd.R_keep (IsS107.apart (show IsS107 w0 _ g s0_0 t283 from by repeat (first | (with_reducible first | exact HI0.out | apply IsS107.alloc | apply IsS107.drewN | apply IsS107.drew | apply IsS107.set_1 | refine IsS107.far ?_ NB0_242.out _ | refine IsS107.far ?_ NB0_247.out _) | exact HI0.out)) (Kd.ur_ HO_248002.out) (by decide)) hk (fun _ h => h.2)) (fun _ h => h.1))
    have n1_ := mk_ (Kd.Q_mono (Kd.Q_keep (IsS107.apartQ (show IsS107 w0 _ g s0_0 t283 from by repeat (first | (with_reducible first | exact HI0.out | apply IsS107.alloc | apply IsS107.drewN | apply IsS107.drew | apply IsS107.set_1 | refine IsS107.far ?_ NB0_242.out _ | refine IsS107.far ?_ NB0_247.out _) | exact HI0.out)) (by (with_reducible repeat (first | apply Kd.Q_alloc | apply Kd.Q_drewN | apply Kd.Q_drew)); exact HO_248003.out) (by decide)) hk (fun _ h => h.2)) (fun _ h => h.1))
    have n2_ := mk_ (KeepBut.blk hk (g' := gb242) (o := .cells #[.int .i64 0, .int .i64 0, .slice none 0 0, .slice none 0 0] 59 (0, 0)) (u_ BK242.out) NB242_0.out (by simp))
    have n3_ := mk_ (KeepBut.blk hk (g' := gb247) (o := .cells #[.int .i64 x248000_1, .int .i64 x248001_1, u248002, u248003] 59 (0, 0)) (u_ BK247.out) NB247_0.out (by simp))
    have n4_ := mk_ (KeepBut.trans (by repeat (first | (with_reducible first | exact HK.out | apply KeepBut.set_ | apply keep_drewN | apply keep_drew | apply keep_alloc | refine keep_far ?_ GW242.out _ | refine keep_far ?_ GW247.out _) | exact HK.out)) hk (.inl rfl))
    have n5_ := mk_ (hb)
    have n6_ := mk_ (hi)
    clear HO_248002
    clear HO_248003
    clear BK242
    clear BK247
    clear HK
    clear HB
    clear HI0
    have HO_248002 := n0_
    have HO_248003 := n1_
    have BK242 := n2_
    have BK247 := n3_
    have HK := n4_
    have HB := n5_
    have HI0 := n6_
    clear n0_ n1_ n2_ n3_ n4_ n5_ n6_
    (try clear hb)
    (try clear hb2)
    (try clear hk)
    (try clear hi)
    refine hK.out _ _ ⟨(blk_cell BK247.out 0).trans rfl, (blk_cell BK247.out 1).trans rfl, (blk_cell BK247.out 2).trans rfl, (blk_cell BK247.out 3).trans rfl⟩ (fun hHeld => ?_)
    clear hK K
    refine norm_ (a' := ?_) ?_ ?_
    rotate_left
    ·show Act.put _ (some 70) _ = _
     simp only [Act.put, la_, lz_, ls_, i64_w, i32_w]
     rfl
    refine pure_ (i := 6) (N := some 71) (v := ?_) (a' := ?_) #[T_, T_, T_, T_, T_, T_, T_, F_, F_, F_, F_, F_, F_] rfl rfl (any_of HT_.out (by kernel_rfl)) (fun _ _ _ h => h) (Or.inl ⟨by rfl, ?_⟩) ?_ ?_
    rotate_left
    ·intro w'
     go_simp
     with_reducible rfl
    rotate_left
    ·simp only [Act.put, la_, lz_, ls_, i64_w, i32_w]
     rfl
    refine pure_ (i := 7) (N := some 72) (v := ?_) (a' := ?_) #[T_, T_, T_, T_, T_, T_, T_, T_, F_, F_, F_, F_, F_] rfl rfl (any_of HT_.out (by kernel_rfl)) (fun _ _ _ h => h) (Or.inl ⟨by rfl, ?_⟩) ?_ ?_
    rotate_left
    ·intro w'
     go_simp
     with_reducible rfl
    rotate_left
    ·simp only [Act.put, la_, lz_, ls_, i64_w, i32_w]
     rfl
    refine pure_ (i := 8) (N := some 73) (v := ?_) (a' := ?_) #[T_, T_, T_, T_, T_, T_, T_, T_, T_, F_, F_, F_, F_] rfl rfl (any_of HT_.out (by kernel_rfl)) (fun _ _ _ h => h) (Or.inl ⟨by rfl, ?_⟩) ?_ ?_
    rotate_left
    ·intro w'
     go_simp
     with_reducible rfl
    rotate_left
    ·simp only [Act.put, la_, lz_, ls_, i64_w, i32_w]
     rfl
    refine one_ (i := 9) (N := some 74) #[T_, T_, T_, T_, T_, T_, T_, T_, T_, T_, F_, F_, F_] rfl rfl (one_of HT_.out (by kernel_rfl)) (by decide) (fun K hK => ?_)
    refine value_ (w1 := ?_) (v := ?_) (by rfl) rfl ?_ ?_
    rotate_left 2
    ·go_simp
     constructor
     ·rfl
     rfl
    refine hK.out _ _ ⟨(blk_cell (blk_alloc BK247.out _) 0).trans rfl, (blk_cell (blk_alloc BK247.out _) 1).trans rfl, (blk_cell (blk_alloc BK247.out _) 2).trans rfl, (blk_cell (blk_alloc BK247.out _) 3).trans rfl⟩ (fun hHeld => ?_)
    clear hK K
    refine norm_ (a' := ?_) ?_ ?_
    rotate_left
    ·show Act.put _ (some 74) _ = _
     simp only [Act.put, la_, lz_, ls_, i64_w, i32_w]
     rfl
    refine one_ (i := 10) (N := some 75) #[T_, T_, T_, T_, T_, T_, T_, T_, T_, T_, T_, F_, F_] rfl rfl (one_of HT_.out (by kernel_rfl)) (by decide) (fun K hK => ?_)
    refine Kd.Q_append_step k68 w.heap.size (by rfl) (.tmp 66) (.tmp 74) 57 68 (.agg #[(.int .i64 0), (.int .u8 0)]) 16 rfl Try.underlying57 info68 rfl (by decide) (by omega) u248003 x248003_1 (⟨wrap64 ((wrap64 (x248000_1 + t286)) - 3), 0⟩ : S68) [.int .i64 (wrap64 ((wrap64 (x248000_1 + t286)) - 3)), .int .u8 0] (fun _ => True) (fun _ => False) rfl rfl ?aP (fun _ hk => hk.elim) ?aF ?aO (Below.refl _ _) ?aS ?aL ?_
    (case aP => exact k68_mkM _ _ _ (⟨wrap64 ((wrap64 (x248000_1 + t286)) - 3), 0⟩ : S68))
    (case aF => exact (fun _ _ => trivial))
    (case aO => exact (by (with_reducible repeat (first | apply Kd.Q_alloc | apply Kd.Q_drewN | apply Kd.Q_drew)); exact HO_248003.out))
    (case aS => exact (keep_size (w := w) (g := g) (row := none) (by repeat (first | (with_reducible first | exact HK.out | apply KeepBut.set_ | apply keep_drewN | apply keep_drew | apply keep_alloc | refine keep_far ?_ GW242.out _ | refine keep_far ?_ GW247.out _) | exact HK.out))))
    (case aL => have := LMc91.out; omega)
    intro v22120 w22121 ho hb hg hat
    rw [← Ny288.out] at ho
    have n0_ := mk_ (Kd.R_over' (Kd.ur_ HO_248002.out) (Kd.Q_typed (by (with_reducible repeat (first | apply Kd.Q_alloc | apply Kd.Q_drewN | apply Kd.Q_drew)); exact HO_248003.out)) (by decide) hg)
    have n1_ := mk_ (blk_grown (g := gb242) (o := .cells #[.int .i64 0, .int .i64 0, .slice none 0 0, .slice none 0 0] 59 (0, 0)) (u_ BK242.out) hg (Kd.Q_ne HO_248003.out BK242.out (by decide)))
    have n2_ := mk_ (blk_grown (g := gb247) (o := .cells #[.int .i64 x248000_1, .int .i64 x248001_1, u248002, u248003] 59 (0, 0)) (u_ BK247.out) hg (Kd.Q_ne HO_248003.out BK247.out (by decide)))
    have n3_ := mk_ (IsS107.grown (by repeat (first | (with_reducible first | exact HI0.out | apply IsS107.alloc | apply IsS107.drewN | apply IsS107.drew | apply IsS107.set_1 | refine IsS107.far ?_ NB0_242.out _ | refine IsS107.far ?_ NB0_247.out _) | exact HI0.out)) hg (IsS107.own_neQ HI0.out HO_248003.out (by decide)))
    have n4_ := mk_ (below_weaken (by repeat (first | (with_reducible first | exact HB.out | apply na_ | apply nn_ | apply nw_ | refine bs_ ?_ (IsS107.ge HI0.out) | refine bs_ ?_ GE242.out | refine bs_ ?_ GE247.out) | exact HB.out)) HL.out hb)
    have n5_ := mk_ (KeepBut.trans (by repeat (first | (with_reducible first | exact HK.out | apply KeepBut.set_ | apply keep_drewN | apply keep_drew | apply keep_alloc | refine keep_far ?_ GW242.out _ | refine keep_far ?_ GW247.out _) | exact HK.out)) (KeepBut.of_grown hg g) (Kd.Q_base2 HO_248003.out))
    have n6_ := mk_ (ho)
    clear HO_248002
    clear BK242
    clear BK247
    clear HI0
    clear HB
    clear HK
    clear HO_248003
    have HO_248002 := n0_
    have BK242 := n1_
    have BK247 := n2_
    have HI0 := n3_
    have HB := n4_
    have HK := n5_
    have HO290 := n6_
    clear n0_ n1_ n2_ n3_ n4_ n5_ n6_
    clear ho hb hg hat
    obtain ⟨Ao32720, co32720, eo32720, _⟩ := Kd.Q_slice HO290.out
    (first | subst eo32720 | (injection eo32720 with f1_ f2_ f3_; have f4_ := f1_.symm; have f5_ := f3_.symm; clear f1_ f2_ f3_; subst f4_; subst f5_))
    refine hK.out _ _ ⟨(blk_cell BK247.out 0).trans rfl, (blk_cell BK247.out 1).trans rfl, (blk_cell BK247.out 2).trans rfl, (blk_cell BK247.out 3).trans rfl⟩ (fun hHeld => ?_)
    clear hK K
    refine norm_ (a' := ?_) ?_ ?_
    rotate_left
    ·show Act.put _ (some 75) _ = _
     simp only [Act.put, la_, lz_, ls_, i64_w, i32_w]
     rfl
    refine pure_ (i := 11) (N := some 76) (v := ?_) (a' := ?_) #[T_, T_, T_, T_, T_, T_, T_, T_, T_, T_, T_, T_, F_] rfl rfl (any_of HT_.out (by kernel_rfl)) (fun _ _ _ h => h) (Or.inl ⟨by rfl, ?_⟩) ?_ ?_
    rotate_left
    ·intro w'
     go_simp
     with_reducible rfl
    rotate_left
    ·simp only [Act.put, la_, lz_, ls_, i64_w, i32_w]
     rfl
    refine last_ (i := 12) (N := none) #[T_, T_, T_, T_, T_, T_, T_, T_, T_, T_, T_, T_, T_] rfl rfl (one_of HT_.out (by kernel_rfl)) (by decide) (fun K hK => ?_)
    have hs23080 : w22121.cell? ⟨gb247, 3, none⟩ = some (u248003) := (blk_cell BK247.out 3).trans rfl
    have hfs23080 := blk_frozen BK247.out 3
    have hns23080_0 := NB242_247.out
    have hms23080_0 := NB247_242.out
    refine skip_ (w1 := ?_) (by rfl) rfl ?_ ?_
    rotate_left
    ·go_simp
     rfl
    refine hK.out _ _ ?_
    clear hK K
    refine done_ (done_of HT_.out (by kernel_rfl)) ?_
    have hnb4810242247 := NB247_242.out
    have hnc4810242247 := NB242_247.out
    have hnb48300247 := NB247_0.out
    have hnc48300247 := NB0_247.out
    obtain ⟨_, _, _, _, _, _, _, _⟩ := cells4_ BK247.out
    have hnb48600242 := NB242_0.out
    have hnc48600242 := NB0_242.out
    obtain ⟨_, _, _, _, _, _, _, _⟩ := cells4_ BK242.out
    obtain ⟨Ao19600, co19600, eo19600⟩ := Kd.R_slice HO_248002.out
    subst eo19600
    try go_wp2
    refine bodyPost_ret (results_cell_row rfl _ _ gb242 59 #[.int .i64 x248000_1, .int .i64 x248001_1, .slice Ao19600 x248002_1.length co19600, .slice Ao32720 y288.length co32720] (0, 0) _ rfl (by (with_reducible repeat (first | refine bn_ ?_ _ | refine bw_ ?_ | refine ba_ ?_ _)); refine blk_put (cs := #[.int .i64 x248000_1, .int .i64 x248001_1, .slice Ao19600 x248002_1.length co19600, .slice none 0 0]) ?_ 3 _ rfl; (with_reducible repeat (first | refine bn_ ?_ _ | refine bw_ ?_ | refine ba_ ?_ _)); refine blk_put (cs := #[.int .i64 x248000_1, .int .i64 x248001_1, .slice none 0 0, .slice none 0 0]) ?_ 2 _ rfl; (with_reducible repeat (first | refine bn_ ?_ _ | refine bw_ ?_ | refine ba_ ?_ _)); refine blk_put (cs := #[.int .i64 x248000_1, .int .i64 0, .slice none 0 0, .slice none 0 0]) ?_ 1 _ rfl; (with_reducible repeat (first | refine bn_ ?_ _ | refine bw_ ?_ | refine ba_ ?_ _)); refine blk_put (cs := #[.int .i64 0, .int .i64 0, .slice none 0 0, .slice none 0 0]) ?_ 0 _ rfl; (with_reducible repeat (first | refine bn_ ?_ _ | refine bw_ ?_ | refine ba_ ?_ _)); refine blk_far ?_ NB242_247.out _; (with_reducible repeat (first | refine bn_ ?_ _ | refine bw_ ?_ | refine ba_ ?_ _)); exact BK242.out) Try.underlying59 rfl (by kernel_rfl)) rfl ?_
    exact ⟨_, _, by first | rfl | (simp [errW_none, errW_some] <;> rfl) | (simp [*, errW_none, errW_some] <;> rfl), by (with_reducible repeat (first | apply Kd.R_alloc | apply Kd.R_drewN | apply Kd.R_drew)); exact Kd.R_mono (Kd.R_far (p := ⟨gb242, 3, none⟩) (Kd.R_far (p := ⟨gb242, 2, none⟩) (Kd.R_far (p := ⟨gb242, 1, none⟩) (Kd.R_far (p := ⟨gb242, 0, none⟩) (Kd.R_far (p := ⟨gb247, 3, none⟩) (Kd.R_types (Kd.R_types HO_248002.out BK247.out (by decide)) BK242.out (by decide)) (fun _ hk => hk.1.2) (.slice Ao32720 y288.length co32720)) (fun _ hk => hk.2) (.int .i64 x248000_1)) (fun _ hk => hk.2) (.int .i64 x248001_1)) (fun _ hk => hk.2) (.slice Ao19600 x248002_1.length co19600)) (fun _ hk => hk.2) (.slice Ao32720 y288.length co32720)) (fun _ hk => trivial), by (with_reducible repeat (first | apply Kd.Q_alloc | apply Kd.Q_drewN | apply Kd.Q_drew)); exact Kd.Q_mono (Kd.Q_far (p := ⟨gb242, 3, none⟩) (Kd.Q_far (p := ⟨gb242, 2, none⟩) (Kd.Q_far (p := ⟨gb242, 1, none⟩) (Kd.Q_far (p := ⟨gb242, 0, none⟩) (Kd.Q_far (p := ⟨gb247, 3, none⟩) (Kd.Q_types (Kd.Q_types HO290.out BK247.out (by decide)) BK242.out (by decide)) (fun _ hk => hk.1.2) (.slice Ao32720 y288.length co32720)) (fun _ hk => hk.2) (.int .i64 x248000_1)) (fun _ hk => hk.2) (.int .i64 x248001_1)) (fun _ hk => hk.2) (.slice Ao19600 x248002_1.length co19600)) (fun _ hk => hk.2) (.slice Ao32720 y288.length co32720)) (fun _ hk => trivial), by repeat (first | (with_reducible first | exact HI0.out | apply IsS107.alloc | apply IsS107.drewN | apply IsS107.drew | apply IsS107.set_1 | refine IsS107.far ?_ NB0_242.out _ | refine IsS107.far ?_ NB0_247.out _) | exact HI0.out), by repeat (first | (with_reducible first | exact HB.out | apply na_ | apply nn_ | apply nw_ | refine bs_ ?_ (IsS107.ge HI0.out) | refine bs_ ?_ GE242.out | refine bs_ ?_ GE247.out) | exact HB.out), by repeat (first | (with_reducible first | exact HK.out | apply KeepBut.set_ | apply keep_drewN | apply keep_drew | apply keep_alloc | refine keep_far ?_ GW242.out _ | refine keep_far ?_ GW247.out _) | exact HK.out)⟩
   all_goals
    refine start_ (n := 7) (S := fun w' => w'.cell? ⟨gb247, 0, none⟩ = some (.int .i64 x248000_1) ∧ w'.cell? ⟨gb247, 1, none⟩ = some (.int .i64 x248001_1) ∧ w'.cell? ⟨gb247, 2, none⟩ = some (u248002) ∧ w'.cell? ⟨gb247, 3, none⟩ = some (u248003)) (ds := []) #[F_, F_, F_, F_, F_, F_, F_] (by kernel_rfl) rfl rfl ⟨(blk_cell BK247.out 0).trans rfl, (blk_cell BK247.out 1).trans rfl, (blk_cell BK247.out 2).trans rfl, (blk_cell BK247.out 3).trans rfl⟩ (fun hHeld => ?_)
    generalize wr.drew = w26200 at HO_248002 HO_248003 BK242 BK247 HI0 HK HB hHeld ⊢
    refine pure_ (i := 0) (N := some 22) (v := ?_) (a' := ?_) #[T_, F_, F_, F_, F_, F_, F_] rfl rfl (by kernel_rfl) (fun _ _ _ h => h) (Or.inl ⟨by rfl, ?_⟩) ?_ ?_
    rotate_left
    ·intro w'
     go_simp
     with_reducible rfl
    rotate_left
    ·simp only [Act.put, la_, lz_, ls_, i64_w, i32_w]
     rfl
    refine pure_ (i := 2) (N := some 24) (v := ?_) (a' := ?_) #[T_, F_, T_, F_, F_, F_, F_] rfl rfl (by kernel_rfl) (fun _ _ _ h => h) (Or.inl ⟨by rfl, ?_⟩) ?_ ?_
    rotate_left
    ·intro w'
     go_simp
     with_reducible rfl
    rotate_left
    ·simp only [Act.put, la_, lz_, ls_, i64_w, i32_w]
     rfl
    refine take_ (i := 1) (N := some 23) (v := ?_) (a' := ?_) #[T_, T_, T_, F_, F_, F_, F_] rfl rfl (by kernel_rfl) (fun _ _ _ h => h) (Or.inl ⟨by rfl, ?_⟩) hHeld ?_ ?_
    rotate_left
    ·rintro w' ⟨s16960, s16961, s16962, s16963⟩
     go_simp
     with_reducible rfl
    rotate_left
    ·simp only [Act.put, la_, lz_, ls_, i64_w, i32_w]
     rfl
    refine one_ (i := 3) (N := some 25) #[T_, T_, T_, T_, F_, F_, F_] rfl rfl (by kernel_rfl) (by decide) (fun K hK => ?_)
    refine goes_ Try.func46 (by kernel_rfl) rfl #[.pointer (some ⟨g, 0, none⟩), .int .i64 14] (by rfl) rfl rfl (by (try simp only [lm_, lo_, ln_]); try rfl) ?_
    with_reducible refine (spec_l20Rd_pick.calls k1 g s0_0 x1001_1 14 t250 t251 w0 _ ?side1 ?side2 A15.out).mono ?_
    (case side1 => repeat (first | (with_reducible first | exact HI0.out | apply IsS107.alloc | apply IsS107.drewN | apply IsS107.drew | apply IsS107.set_1 | refine IsS107.far ?_ NB0_242.out _ | refine IsS107.far ?_ NB0_247.out _) | exact HI0.out))
    (case side2 => repeat (first | (with_reducible first | exact HB.out | apply na_ | apply nn_ | apply nw_ | refine bs_ ?_ (IsS107.ge HI0.out) | refine bs_ ?_ GE242.out | refine bs_ ?_ GE247.out) | exact HB.out))
    rintro e w31800 ⟨rfl, hi, hb, hk⟩
    refine ⟨_, rfl, ?_⟩
    have n0_ := mk_ (Kd.R_mono (Kd.R_keep (IsS107.apart (show IsS107 w0 _ g s0_0 x1001_1 from by repeat (first | (with_reducible first | exact HI0.out | apply IsS107.alloc | apply IsS107.drewN | apply IsS107.drew | apply IsS107.set_1 | refine IsS107.far ?_ NB0_242.out _ | refine IsS107.far ?_ NB0_247.out _) | exact HI0.out)) (Kd.ur_ HO_248002.out) (by decide)) hk (fun _ h => h.2)) (fun _ h => h.1))
    have n1_ := mk_ (Kd.Q_mono (Kd.Q_keep (IsS107.apartQ (show IsS107 w0 _ g s0_0 x1001_1 from by repeat (first | (with_reducible first | exact HI0.out | apply IsS107.alloc | apply IsS107.drewN | apply IsS107.drew | apply IsS107.set_1 | refine IsS107.far ?_ NB0_242.out _ | refine IsS107.far ?_ NB0_247.out _) | exact HI0.out)) (by (with_reducible repeat (first | apply Kd.Q_alloc | apply Kd.Q_drewN | apply Kd.Q_drew)); exact HO_248003.out) (by decide)) hk (fun _ h => h.2)) (fun _ h => h.1))
    have n2_ := mk_ (KeepBut.blk hk (g' := gb242) (o := .cells #[.int .i64 0, .int .i64 0, .slice none 0 0, .slice none 0 0] 59 (0, 0)) (u_ BK242.out) NB242_0.out (by simp))
    have n3_ := mk_ (KeepBut.blk hk (g' := gb247) (o := .cells #[.int .i64 x248000_1, .int .i64 x248001_1, u248002, u248003] 59 (0, 0)) (u_ BK247.out) NB247_0.out (by simp))
    have n4_ := mk_ (KeepBut.trans (by repeat (first | (with_reducible first | exact HK.out | apply KeepBut.set_ | apply keep_drewN | apply keep_drew | apply keep_alloc | refine keep_far ?_ GW242.out _ | refine keep_far ?_ GW247.out _) | exact HK.out)) hk (.inl rfl))
    have n5_ := mk_ (hb)
    have n6_ := mk_ (hi)
    clear HO_248002
    clear HO_248003
    clear BK242
    clear BK247
    clear HK
    clear HB
    clear HI0
    have HO_248002 := n0_
    have HO_248003 := n1_
    have BK242 := n2_
    have BK247 := n3_
    have HK := n4_
    have HB := n5_
    have HI0 := n6_
    clear n0_ n1_ n2_ n3_ n4_ n5_ n6_
    (try clear hb)
    (try clear hb2)
    (try clear hk)
    (try clear hi)
    refine hK.out _ _ ⟨(blk_cell BK247.out 0).trans rfl, (blk_cell BK247.out 1).trans rfl, (blk_cell BK247.out 2).trans rfl, (blk_cell BK247.out 3).trans rfl⟩ (fun hHeld => ?_)
    clear hK K
    refine norm_ (a' := ?_) ?_ ?_
    rotate_left
    ·show Act.put _ (some 25) _ = _
     simp only [Act.put, la_, lz_, ls_, i64_w, i32_w]
     rfl
    refine pure_ (i := 4) (N := some 26) (v := ?_) (a' := ?_) #[T_, T_, T_, T_, T_, F_, F_] rfl rfl (by kernel_rfl) (fun _ _ _ h => h) (Or.inl ⟨by rfl, ?_⟩) ?_ ?_
    rotate_left
    ·intro w'
     go_simp
     with_reducible rfl
    rotate_left
    ·simp only [Act.put, la_, lz_, ls_, i64_w, i32_w]
     rfl
    refine pure_ (i := 5) (N := some 27) (v := ?_) (a' := ?_) #[T_, T_, T_, T_, T_, T_, F_] rfl rfl (by kernel_rfl) (fun _ _ _ h => h) (Or.inl ⟨by rfl, ?_⟩) ?_ ?_
    rotate_left
    ·intro w'
     go_simp
     with_reducible rfl
    rotate_left
    ·simp only [Act.put, la_, lz_, ls_, i64_w, i32_w]
     rfl
    refine pure_ (i := 6) (N := some 7) (v := ?_) (a' := ?_) #[T_, T_, T_, T_, T_, T_, T_] rfl rfl (by kernel_rfl) (fun _ _ _ h => h) (Or.inl ⟨by rfl, ?_⟩) ?_ ?_
    rotate_left
    ·intro w'
     go_simp
     with_reducible rfl
    rotate_left
    ·simp only [Act.put, la_, lz_, ls_, i64_w, i32_w]
     rfl
    refine done_ (by kernel_rfl) ?_
    try go_wp2
    have n0_ := mk_ (Kd.R_drew HO_248002.out)
    have n1_ := mk_ (Kd.Q_drew HO_248003.out)
    have n2_ := mk_ (blk_drew BK242.out)
    have n3_ := mk_ (blk_drew BK247.out)
    have n4_ := mk_ (IsS107.drew HI0.out)
    have n5_ := mk_ (keep_drew HK.out)
    have n6_ := mk_ (below_drew1 HB.out)
    clear HO_248002
    clear HO_248003
    clear BK242
    clear BK247
    clear HI0
    clear HK
    clear HB
    have HO_248002 := n0_
    have HO_248003 := n1_
    have BK242 := n2_
    have BK247 := n3_
    have HI0 := n4_
    have HK := n5_
    have HB := n6_
    clear n0_ n1_ n2_ n3_ n4_ n5_ n6_
    refine start_ (n := 8) (S := fun w' => w'.cell? ⟨gb247, 0, none⟩ = some (.int .i64 x248000_1) ∧ w'.cell? ⟨gb247, 1, none⟩ = some (.int .i64 x248001_1) ∧ w'.cell? ⟨gb247, 2, none⟩ = some (u248002) ∧ w'.cell? ⟨gb247, 3, none⟩ = some (u248003)) (ds := [7]) #[F_, F_, F_, F_, F_, F_, F_, F_] (by kernel_rfl) rfl rfl ⟨(blk_cell BK247.out 0).trans rfl, (blk_cell BK247.out 1).trans rfl, (blk_cell BK247.out 2).trans rfl, (blk_cell BK247.out 3).trans rfl⟩ (fun hHeld => ?_); refine with_tabW spec_l20Ear.tab6 spec_l20Ear.bits6 (fun HT_ HW_ => ?_)
    generalize w31800.drew = w26240 at HO_248002 HO_248003 BK242 BK247 HI0 HK HB hHeld ⊢
    refine pure_ (i := 1) (N := some 29) (v := ?_) (a' := ?_) #[F_, T_, F_, F_, F_, F_, F_, F_] rfl rfl (any_of HT_.out (by kernel_rfl)) (fun _ _ _ h => h) (Or.inl ⟨by rfl, ?_⟩) ?_ ?_
    rotate_left
    ·intro w'
     go_simp
     with_reducible rfl
    rotate_left
    ·simp only [Act.put, la_, lz_, ls_, i64_w, i32_w]
     rfl
    refine pure_ (i := 2) (N := some 30) (v := ?_) (a' := ?_) #[F_, T_, T_, F_, F_, F_, F_, F_] rfl rfl (any_of HT_.out (by kernel_rfl)) (fun _ _ _ h => h) (Or.inl ⟨by rfl, ?_⟩) ?_ ?_
    rotate_left
    ·intro w'
     go_simp
     with_reducible rfl
    rotate_left
    ·simp only [Act.put, la_, lz_, ls_, i64_w, i32_w]
     rfl
    refine pure_ (i := 3) (N := some 31) (v := ?_) (a' := ?_) #[F_, T_, T_, T_, F_, F_, F_, F_] rfl rfl (any_of HT_.out (by kernel_rfl)) (fun _ _ _ h => h) (Or.inl ⟨by rfl, ?_⟩) ?_ ?_
    rotate_left
    ·intro w'
     go_simp
     with_reducible rfl
    rotate_left
    ·simp only [Act.put, la_, lz_, ls_, i64_w, i32_w]
     rfl
    refine take_ (i := 0) (N := some 28) (v := ?_) (a' := ?_) #[T_, T_, T_, T_, F_, F_, F_, F_] rfl rfl (take_ofW HT_.out HW_.out (by kernel_rfl)) (fun _ _ _ h => h) (Or.inl ⟨by rfl, ?_⟩) hHeld ?_ ?_
    rotate_left
    ·rintro w' ⟨s16960, s16961, s16962, s16963⟩
     go_simp
     with_reducible rfl
    rotate_left
    ·simp only [Act.put, la_, lz_, ls_, i64_w, i32_w]
     rfl
    refine one_ (i := 4) (N := some 32) #[T_, T_, T_, T_, T_, F_, F_, F_] rfl rfl (one_of HT_.out (by kernel_rfl)) (by decide) (fun K hK => ?_)
    refine goes_ Try.func46 (by kernel_rfl) rfl #[.pointer (some ⟨g, 0, none⟩), .int .i64 5] (by rfl) rfl rfl (by (try simp only [lm_, lo_, ln_]); try rfl) ?_
    with_reducible refine (spec_l20Rd_pick.calls k1 g s0_0 t251 5 t252 t253 w0 _ ?side1 ?side2 A16.out).mono ?_
    (case side1 => repeat (first | (with_reducible first | exact HI0.out | apply IsS107.alloc | apply IsS107.drewN | apply IsS107.drew | apply IsS107.set_1 | refine IsS107.far ?_ NB0_242.out _ | refine IsS107.far ?_ NB0_247.out _) | exact HI0.out))
    (case side2 => repeat (first | (with_reducible first | exact HB.out | apply na_ | apply nn_ | apply nw_ | refine bs_ ?_ (IsS107.ge HI0.out) | refine bs_ ?_ GE242.out | refine bs_ ?_ GE247.out) | exact HB.out))
    rintro e w33280 ⟨rfl, hi, hb, hk⟩
    refine ⟨_, rfl, ?_⟩
    have n0_ := mk_ (Kd.R_mono (Kd.R_keep (IsS107.apart (show IsS107 w0 _ g s0_0 t251 from by repeat (first | (with_reducible first | exact HI0.out | apply IsS107.alloc | apply IsS107.drewN | apply IsS107.drew | apply IsS107.set_1 | refine IsS107.far ?_ NB0_242.out _ | refine IsS107.far ?_ NB0_247.out _) | exact HI0.out)) (Kd.ur_ HO_248002.out) (by decide)) hk (fun _ h => h.2)) (fun _ h => h.1))
    have n1_ := mk_ (Kd.Q_mono (Kd.Q_keep (IsS107.apartQ (show IsS107 w0 _ g s0_0 t251 from by repeat (first | (with_reducible first | exact HI0.out | apply IsS107.alloc | apply IsS107.drewN | apply IsS107.drew | apply IsS107.set_1 | refine IsS107.far ?_ NB0_242.out _ | refine IsS107.far ?_ NB0_247.out _) | exact HI0.out)) (by (with_reducible repeat (first | apply Kd.Q_alloc | apply Kd.Q_drewN | apply Kd.Q_drew)); exact HO_248003.out) (by decide)) hk (fun _ h => h.2)) (fun _ h => h.1))
    have n2_ := mk_ (KeepBut.blk hk (g' := gb242) (o := .cells #[.int .i64 0, .int .i64 0, .slice none 0 0, .slice none 0 0] 59 (0, 0)) (u_ BK242.out) NB242_0.out (by simp))
    have n3_ := mk_ (KeepBut.blk hk (g' := gb247) (o := .cells #[.int .i64 x248000_1, .int .i64 x248001_1, u248002, u248003] 59 (0, 0)) (u_ BK247.out) NB247_0.out (by simp))
    have n4_ := mk_ (KeepBut.trans (by repeat (first | (with_reducible first | exact HK.out | apply KeepBut.set_ | apply keep_drewN | apply keep_drew | apply keep_alloc | refine keep_far ?_ GW242.out _ | refine keep_far ?_ GW247.out _) | exact HK.out)) hk (.inl rfl))
    have n5_ := mk_ (hb)
    have n6_ := mk_ (hi)
    clear HO_248002
    clear HO_248003
    clear BK242
    clear BK247
    clear HK
    clear HB
    clear HI0
    have HO_248002 := n0_
    have HO_248003 := n1_
    have BK242 := n2_
    have BK247 := n3_
    have HK := n4_
    have HB := n5_
    have HI0 := n6_
    clear n0_ n1_ n2_ n3_ n4_ n5_ n6_
    (try clear hb)
    (try clear hb2)
    (try clear hk)
    (try clear hi)
    refine hK.out _ _ ⟨(blk_cell BK247.out 0).trans rfl, (blk_cell BK247.out 1).trans rfl, (blk_cell BK247.out 2).trans rfl, (blk_cell BK247.out 3).trans rfl⟩ (fun hHeld => ?_)
    clear hK K
    refine norm_ (a' := ?_) ?_ ?_
    rotate_left
    ·show Act.put _ (some 32) _ = _
     simp only [Act.put, la_, lz_, ls_, i64_w, i32_w]
     rfl
    refine one_ (i := 5) (N := some 33) #[T_, T_, T_, T_, T_, T_, F_, F_] rfl rfl (one_of HT_.out (by kernel_rfl)) (by decide) (fun K hK => ?_)
    refine goes_ Try.func112 (by kernel_rfl) rfl #[.int .i64 (wrap64 ((wrap64 (x248000_1 + t250)) - 4)), .int .i64 t252] (by rfl) rfl rfl (by (try simp only [lm_, lo_, ln_]); try rfl) ?_
    with_reducible refine (spec_l20Heard.calls k1 (wrap64 ((wrap64 (x248000_1 + t250)) - 4)) t252 t254 _ A17.out).mono ?_
    rintro e w34160 ⟨v34161, rfl, ho16960, hb⟩
    refine ⟨_, rfl, ?_⟩
    have n0_ := mk_ (Kd.R_elder' (Kd.ur_ HO_248002.out) (Kd.R_base ho16960) hb)
    have n1_ := mk_ (Kd.Q_below (by (with_reducible repeat (first | apply Kd.Q_alloc | apply Kd.Q_drewN | apply Kd.Q_drew)); exact HO_248003.out) hb)
    have n2_ := mk_ (Kd.R_lower (Kd.R_new' ho16960 (Kd.R_lt (Kd.ur_ HO_248002.out))) (keep_size (w := w) (g := g) (row := none) (by repeat (first | (with_reducible first | exact HK.out | apply KeepBut.set_ | apply keep_drewN | apply keep_drew | apply keep_alloc | refine keep_far ?_ GW242.out _ | refine keep_far ?_ GW247.out _) | exact HK.out))))
    have n3_ := mk_ (blk_below (u_ BK242.out) hb)
    have n4_ := mk_ (blk_below (u_ BK247.out) hb)
    have n5_ := mk_ (IsS107.below (by repeat (first | (with_reducible first | exact HI0.out | apply IsS107.alloc | apply IsS107.drewN | apply IsS107.drew | apply IsS107.set_1 | refine IsS107.far ?_ NB0_242.out _ | refine IsS107.far ?_ NB0_247.out _) | exact HI0.out)) hb)
    have n6_ := mk_ (KeepBut.trans (by repeat (first | (with_reducible first | exact HK.out | apply KeepBut.set_ | apply keep_drewN | apply keep_drew | apply keep_alloc | refine keep_far ?_ GW242.out _ | refine keep_far ?_ GW247.out _) | exact HK.out)) (KeepBut.of_below hb g none) (.inl rfl))
    have n7_ := mk_ (below_step (by repeat (first | (with_reducible first | exact HB.out | apply na_ | apply nn_ | apply nw_ | refine bs_ ?_ (IsS107.ge HI0.out) | refine bs_ ?_ GE242.out | refine bs_ ?_ GE247.out) | exact HB.out)) hb)
    clear HO_248002
    clear HO_248003
    clear BK242
    clear BK247
    clear HI0
    clear HK
    clear HB
    have HO_248002 := n0_
    have HO_248003 := n1_
    have HO256 := n2_
    have BK242 := n3_
    have BK247 := n4_
    have HI0 := n5_
    have HK := n6_
    have HB := n7_
    clear n0_ n1_ n2_ n3_ n4_ n5_ n6_ n7_
    (try clear hb)
    (try clear hb2)
    (try clear hk)
    (try clear hi)
    (try clear ho16960)
    obtain ⟨Ao19600, co19600, eo19600⟩ := Kd.R_slice HO_248002.out
    (first | subst eo19600 | (injection eo19600 with f1_ f2_ f3_; have f4_ := f1_.symm; have f5_ := f3_.symm; clear f1_ f2_ f3_; subst f4_; subst f5_))
    obtain ⟨Ao35040, co35040, eo35040, _⟩ := Kd.Q_slice HO_248003.out
    (first | subst eo35040 | (injection eo35040 with f1_ f2_ f3_; have f4_ := f1_.symm; have f5_ := f3_.symm; clear f1_ f2_ f3_; subst f4_; subst f5_))
    obtain ⟨Ao4290256, co4290256, eo4290256⟩ := Kd.R_slice HO256.out
    (first | subst eo4290256 | (injection eo4290256 with f1_ f2_ f3_; have f4_ := f1_.symm; have f5_ := f3_.symm; clear f1_ f2_ f3_; subst f4_; subst f5_))
    refine hK.out _ _ ⟨(blk_cell BK247.out 0).trans rfl, (blk_cell BK247.out 1).trans rfl, (blk_cell BK247.out 2).trans rfl, (blk_cell BK247.out 3).trans rfl⟩ (fun hHeld => ?_)
    clear hK K
    refine norm_ (a' := ?_) ?_ ?_
    rotate_left
    ·show Act.put _ (some 33) _ = _
     simp only [Act.put, la_, lz_, ls_, i64_w, i32_w]
     rfl
    refine one_ (i := 6) (N := some 34) #[T_, T_, T_, T_, T_, T_, T_, F_] rfl rfl (one_of HT_.out (by kernel_rfl)) (by decide) (fun K hK => ?_)
    refine goes_ Try.func111 (by kernel_rfl) rfl #[.agg #[.int .i64 x248000_1, .int .i64 x248001_1, .slice Ao19600 x248002_1.length co19600, .slice Ao35040 x248003_1.length co35040], .int .i64 (wrap64 ((wrap64 (x248000_1 + t250)) - 4)), .slice Ao4290256 t254.length co4290256] (by rfl) rfl rfl (by (try simp only [lm_, lo_, ln_]); try rfl) ?_
    with_reducible refine (spec_EarHear.calls k1 x248000_1 x248001_1 _ _ x248002_1 _ _ x248003_1 (wrap64 ((wrap64 (x248000_1 + t250)) - 4)) _ _ t254 t257 t258 t259 t262 _ ?side1 ?side2 ?side3 ?side4 ?side5 ?side6 A18.out).mono ?_
    (case side1 => repeat (first | exact (Kd.R_reads' HO_248002.out).2.2 | (with_reducible refine Kd.C_alloc ?_ _) | (with_reducible refine Kd.C_drewN ?_ _) | (with_reducible refine Kd.C_drew ?_)))
    (case side2 => exact (Kd.R_reads' HO_248002.out).2.1)
    (case side3 => repeat (first | exact (Kd.Q_reads' HO_248003.out).2.2 | (with_reducible refine Kd.C_alloc ?_ _) | (with_reducible refine Kd.C_drewN ?_ _) | (with_reducible refine Kd.C_drew ?_)))
    (case side4 => exact (Kd.Q_reads' HO_248003.out).2.1)
    (case side5 => repeat (first | exact (Kd.R_reads' HO256.out).2.2 | (with_reducible refine Kd.C_alloc ?_ _) | (with_reducible refine Kd.C_drewN ?_ _) | (with_reducible refine Kd.C_drew ?_)))
    (case side6 => exact (Kd.R_reads' HO256.out).2.1)
    rintro e w35480 ⟨v35481, v35482, rfl, ho16960, ho16961, hb⟩
    refine ⟨_, rfl, ?_⟩
    have n0_ := mk_ (Kd.R_elder' (Kd.ur_ HO_248002.out) (Kd.R_base ho16960) hb)
    have n1_ := mk_ (Kd.Q_elder' (by (with_reducible repeat (first | apply Kd.Q_alloc | apply Kd.Q_drewN | apply Kd.Q_drew)); exact HO_248003.out) (Kd.Q_base ho16961) hb)
    have n2_ := mk_ (Kd.R_elder' (Kd.ur_ HO256.out) (Kd.R_base ho16960) hb)
    have n3_ := mk_ (Kd.R_lower (Kd.R_new' (Kd.R_new' ho16960 (Kd.R_lt (Kd.ur_ HO_248002.out))) (Kd.R_lt (Kd.ur_ HO256.out))) (keep_size (w := w) (g := g) (row := none) (by repeat (first | (with_reducible first | exact HK.out | apply KeepBut.set_ | apply keep_drewN | apply keep_drew | apply keep_alloc | refine keep_far ?_ GW242.out _ | refine keep_far ?_ GW247.out _) | exact HK.out))))
    have n4_ := mk_ (Kd.Q_lower (Kd.Q_new' ho16961 (Kd.Q_lt (by (with_reducible repeat (first | apply Kd.Q_alloc | apply Kd.Q_drewN | apply Kd.Q_drew)); exact HO_248003.out))) (keep_size (w := w) (g := g) (row := none) (by repeat (first | (with_reducible first | exact HK.out | apply KeepBut.set_ | apply keep_drewN | apply keep_drew | apply keep_alloc | refine keep_far ?_ GW242.out _ | refine keep_far ?_ GW247.out _) | exact HK.out))))
    have n5_ := mk_ (blk_below (u_ BK242.out) hb)
    have n6_ := mk_ (blk_below (u_ BK247.out) hb)
    have n7_ := mk_ (IsS107.below (by repeat (first | (with_reducible first | exact HI0.out | apply IsS107.alloc | apply IsS107.drewN | apply IsS107.drew | apply IsS107.set_1 | refine IsS107.far ?_ NB0_242.out _ | refine IsS107.far ?_ NB0_247.out _) | exact HI0.out)) hb)
    have n8_ := mk_ (KeepBut.trans (by repeat (first | (with_reducible first | exact HK.out | apply KeepBut.set_ | apply keep_drewN | apply keep_drew | apply keep_alloc | refine keep_far ?_ GW242.out _ | refine keep_far ?_ GW247.out _) | exact HK.out)) (KeepBut.of_below hb g none) (.inl rfl))
    have n9_ := mk_ (below_step (by repeat (first | (with_reducible first | exact HB.out | apply na_ | apply nn_ | apply nw_ | refine bs_ ?_ (IsS107.ge HI0.out) | refine bs_ ?_ GE242.out | refine bs_ ?_ GE247.out) | exact HB.out)) hb)
    clear HO_248002
    clear HO_248003
    clear HO256
    clear BK242
    clear BK247
    clear HI0
    clear HK
    clear HB
    have HO_248002 := n0_
    have HO_248003 := n1_
    have HO256 := n2_
    have HO261 := n3_
    have HO264 := n4_
    have BK242 := n5_
    have BK247 := n6_
    have HI0 := n7_
    have HK := n8_
    have HB := n9_
    clear n0_ n1_ n2_ n3_ n4_ n5_ n6_ n7_ n8_ n9_
    (try clear hb)
    (try clear hb2)
    (try clear hk)
    (try clear hi)
    (try clear ho16960)
    (try clear ho16961)
    obtain ⟨Ao6500261, co6500261, eo6500261⟩ := Kd.R_slice HO261.out
    (first | subst eo6500261 | (injection eo6500261 with f1_ f2_ f3_; have f4_ := f1_.symm; have f5_ := f3_.symm; clear f1_ f2_ f3_; subst f4_; subst f5_))
    obtain ⟨Ao32720, co32720, eo32720, _⟩ := Kd.Q_slice HO264.out
    (first | subst eo32720 | (injection eo32720 with f1_ f2_ f3_; have f4_ := f1_.symm; have f5_ := f3_.symm; clear f1_ f2_ f3_; subst f4_; subst f5_))
    refine hK.out _ _ ⟨(blk_cell BK247.out 0).trans rfl, (blk_cell BK247.out 1).trans rfl, (blk_cell BK247.out 2).trans rfl, (blk_cell BK247.out 3).trans rfl⟩ (fun hHeld => ?_)
    clear hK K
    refine norm_ (a' := ?_) ?_ ?_
    rotate_left
    ·show Act.put _ (some 34) _ = _
     simp only [Act.put, la_, lz_, ls_, i64_w, i32_w]
     rfl
    refine last_ (i := 7) (N := none) #[T_, T_, T_, T_, T_, T_, T_, T_] rfl rfl (one_of HT_.out (by kernel_rfl)) (by decide) (fun K hK => ?_)
    have hs36760 : w35480.cell? ⟨gb247, 0, none⟩ = some (.int .i64 x248000_1) := (blk_cell BK247.out 0).trans rfl
    have hfs36760 := blk_frozen BK247.out 0
    have hns36760_0 := NB242_247.out
    have hms36760_0 := NB247_242.out
    have hs36800 : w35480.cell? ⟨gb247, 1, none⟩ = some (.int .i64 x248001_1) := (blk_cell BK247.out 1).trans rfl
    have hfs36800 := blk_frozen BK247.out 1
    have hns36800_0 := NB242_247.out
    have hms36800_0 := NB247_242.out
    have hs36840 : w35480.cell? ⟨gb247, 2, none⟩ = some (.slice Ao19600 x248002_1.length co19600) := (blk_cell BK247.out 2).trans rfl
    have hfs36840 := blk_frozen BK247.out 2
    have hns36840_0 := NB242_247.out
    have hms36840_0 := NB247_242.out
    have hs36880 : w35480.cell? ⟨gb247, 3, none⟩ = some (.slice Ao35040 x248003_1.length co35040) := (blk_cell BK247.out 3).trans rfl
    have hfs36880 := blk_frozen BK247.out 3
    have hns36880_0 := NB242_247.out
    have hms36880_0 := NB247_242.out
    refine skip_ (w1 := ?_) (by rfl) rfl ?_ ?_
    rotate_left
    ·go_simp
     rfl
    refine hK.out _ _ ?_
    clear hK K
    refine done_ (done_of HT_.out (by kernel_rfl)) ?_
    try go_wp2_with (first | ((with_reducible refine gate_callee (f := 46) rfl ?_); refine goesL_ (some 36) rfl rfl Try.func46 (by kernel_rfl) rfl #[.pointer (some ⟨g, 0, none⟩), .int .i64 4] rfl (by (try simp only [lm_, lo_, ln_]); try rfl) ?_; (with_reducible refine (spec_l20Rd_pick.calls k1 g s0_0 t253 4 t265 t266 w0 _ ?side1 ?side2 A19.out).mono ?_); (case side1 => repeat (first | (with_reducible first | exact HI0.out | apply IsS107.alloc | apply IsS107.drewN | apply IsS107.drew | apply IsS107.set_1 | refine IsS107.far ?_ NB0_242.out _ | refine IsS107.far ?_ NB0_247.out _) | exact HI0.out)); (case side2 => repeat (first | (with_reducible first | exact HB.out | apply na_ | apply nn_ | apply nw_ | refine bs_ ?_ (IsS107.ge HI0.out) | refine bs_ ?_ GE242.out | refine bs_ ?_ GE247.out) | exact HB.out)); rintro e w36960 ⟨rfl, hi, hb, hk⟩; refine ⟨_, rfl, ?_⟩; replace HO_248002 := mk_ (Kd.R_mono (Kd.R_keep (IsS107.apart (show IsS107 w0 _ g s0_0 t253 from by repeat (first | (with_reducible first | exact HI0.out | apply IsS107.alloc | apply IsS107.drewN | apply IsS107.drew | apply IsS107.set_1 | refine IsS107.far ?_ NB0_242.out _ | refine IsS107.far ?_ NB0_247.out _) | exact HI0.out)) (by (with_reducible repeat (first | apply Kd.R_alloc | apply Kd.R_drewN | apply Kd.R_drew)); exact (Kd.R_mono (Kd.R_far (p := ⟨gb247, 3, none⟩) (Kd.R_far (p := ⟨gb247, 2, none⟩) (Kd.R_far (p := ⟨gb247, 1, none⟩) (Kd.R_far (p := ⟨gb247, 0, none⟩) (Kd.R_types HO_248002.out BK247.out (by decide)) (fun _ hk => hk.2) (.int .i64 t257)) (fun _ hk => hk.2) (.int .i64 t258)) (fun _ hk => hk.2) (.slice Ao6500261 t259.length co6500261)) (fun _ hk => hk.2) (.slice Ao32720 t262.length co32720)) (fun _ h_ => by first | exact h_.1 | simp only [h_, ne_eq, not_false_eq_true, and_self]))) (by decide)) hk (fun _ h => h.2)) (fun _ h => h.1)); replace HO_248003 := mk_ (Kd.Q_mono (Kd.Q_keep (IsS107.apartQ (show IsS107 w0 _ g s0_0 t253 from by repeat (first | (with_reducible first | exact HI0.out | apply IsS107.alloc | apply IsS107.drewN | apply IsS107.drew | apply IsS107.set_1 | refine IsS107.far ?_ NB0_242.out _ | refine IsS107.far ?_ NB0_247.out _) | exact HI0.out)) (by (with_reducible repeat (first | apply Kd.Q_alloc | apply Kd.Q_drewN | apply Kd.Q_drew)); exact (Kd.Q_mono (Kd.Q_far (p := ⟨gb247, 3, none⟩) (Kd.Q_far (p := ⟨gb247, 2, none⟩) (Kd.Q_far (p := ⟨gb247, 1, none⟩) (Kd.Q_far (p := ⟨gb247, 0, none⟩) (Kd.Q_types HO_248003.out BK247.out (by decide)) (fun _ hk => hk.2) (.int .i64 t257)) (fun _ hk => hk.2) (.int .i64 t258)) (fun _ hk => hk.2) (.slice Ao6500261 t259.length co6500261)) (fun _ hk => hk.2) (.slice Ao32720 t262.length co32720)) (fun _ h_ => by first | exact h_.1 | simp only [h_, ne_eq, not_false_eq_true, and_self]))) (by decide)) hk (fun _ h => h.2)) (fun _ h => h.1)); replace BK242 := mk_ (KeepBut.blk hk (g' := gb242) (o := .cells #[.int .i64 0, .int .i64 0, .slice none 0 0, .slice none 0 0] 59 (0, 0)) (uf_ BK242.out) NB242_0.out (by simp)); have n3_ := mk_ (KeepBut.blk hk (g' := gb247) (o := .cells #[.int .i64 t257, .int .i64 t258, .slice Ao6500261 t259.length co6500261, .slice Ao32720 t262.length co32720] 59 (0, 0)) (by (with_reducible repeat (first | refine bn_ ?_ _ | refine bw_ ?_ | refine ba_ ?_ _)); refine blk_put (cs := #[.int .i64 t257, .int .i64 t258, .slice Ao6500261 t259.length co6500261, .slice Ao35040 x248003_1.length co35040]) ?_ 3 _ rfl; (with_reducible repeat (first | refine bn_ ?_ _ | refine bw_ ?_ | refine ba_ ?_ _)); refine blk_put (cs := #[.int .i64 t257, .int .i64 t258, .slice Ao19600 x248002_1.length co19600, .slice Ao35040 x248003_1.length co35040]) ?_ 2 _ rfl; (with_reducible repeat (first | refine bn_ ?_ _ | refine bw_ ?_ | refine ba_ ?_ _)); refine blk_put (cs := #[.int .i64 t257, .int .i64 x248001_1, .slice Ao19600 x248002_1.length co19600, .slice Ao35040 x248003_1.length co35040]) ?_ 1 _ rfl; (with_reducible repeat (first | refine bn_ ?_ _ | refine bw_ ?_ | refine ba_ ?_ _)); refine blk_put (cs := #[.int .i64 x248000_1, .int .i64 x248001_1, .slice Ao19600 x248002_1.length co19600, .slice Ao35040 x248003_1.length co35040]) ?_ 0 _ rfl; (with_reducible repeat (first | refine bn_ ?_ _ | refine bw_ ?_ | refine ba_ ?_ _)); exact BK247.out) NB247_0.out (by simp)); replace HO256 := mk_ (Kd.R_mono (Kd.R_keep (IsS107.apart (show IsS107 w0 _ g s0_0 t253 from by repeat (first | (with_reducible first | exact HI0.out | apply IsS107.alloc | apply IsS107.drewN | apply IsS107.drew | apply IsS107.set_1 | refine IsS107.far ?_ NB0_242.out _ | refine IsS107.far ?_ NB0_247.out _) | exact HI0.out)) (by (with_reducible repeat (first | apply Kd.R_alloc | apply Kd.R_drewN | apply Kd.R_drew)); exact (Kd.R_mono (Kd.R_far (p := ⟨gb247, 3, none⟩) (Kd.R_far (p := ⟨gb247, 2, none⟩) (Kd.R_far (p := ⟨gb247, 1, none⟩) (Kd.R_far (p := ⟨gb247, 0, none⟩) (Kd.R_types HO256.out BK247.out (by decide)) (fun _ hk => hk.2) (.int .i64 t257)) (fun _ hk => hk.2) (.int .i64 t258)) (fun _ hk => hk.2) (.slice Ao6500261 t259.length co6500261)) (fun _ hk => hk.2) (.slice Ao32720 t262.length co32720)) (fun _ h_ => by first | exact h_.1 | simp only [h_, ne_eq, not_false_eq_true, and_self]))) (by decide)) hk (fun _ h => h.2)) (fun _ h => h.1)); replace HO261 := mk_ (Kd.R_mono (Kd.R_keep (IsS107.apart (show IsS107 w0 _ g s0_0 t253 from by repeat (first | (with_reducible first | exact HI0.out | apply IsS107.alloc | apply IsS107.drewN | apply IsS107.drew | apply IsS107.set_1 | refine IsS107.far ?_ NB0_242.out _ | refine IsS107.far ?_ NB0_247.out _) | exact HI0.out)) (by (with_reducible repeat (first | apply Kd.R_alloc | apply Kd.R_drewN | apply Kd.R_drew)); exact (Kd.R_mono (Kd.R_far (p := ⟨gb247, 3, none⟩) (Kd.R_far (p := ⟨gb247, 2, none⟩) (Kd.R_far (p := ⟨gb247, 1, none⟩) (Kd.R_far (p := ⟨gb247, 0, none⟩) (Kd.R_types HO261.out BK247.out (by decide)) (fun _ hk => hk.2) (.int .i64 t257)) (fun _ hk => hk.2) (.int .i64 t258)) (fun _ hk => hk.2) (.slice Ao6500261 t259.length co6500261)) (fun _ hk => hk.2) (.slice Ao32720 t262.length co32720)) (fun _ h_ => by first | exact h_.1 | simp only [h_, ne_eq, not_false_eq_true, and_self]))) (by decide)) hk (fun _ h => h.2)) (fun _ h => h.1)); replace HO264 := mk_ (Kd.Q_mono (Kd.Q_keep (IsS107.apartQ (show IsS107 w0 _ g s0_0 t253 from by repeat (first | (with_reducible first | exact HI0.out | apply IsS107.alloc | apply IsS107.drewN | apply IsS107.drew | apply IsS107.set_1 | refine IsS107.far ?_ NB0_242.out _ | refine IsS107.far ?_ NB0_247.out _) | exact HI0.out)) (by (with_reducible repeat (first | apply Kd.Q_alloc | apply Kd.Q_drewN | apply Kd.Q_drew)); exact (Kd.Q_mono (Kd.Q_far (p := ⟨gb247, 3, none⟩) (Kd.Q_far (p := ⟨gb247, 2, none⟩) (Kd.Q_far (p := ⟨gb247, 1, none⟩) (Kd.Q_far (p := ⟨gb247, 0, none⟩) (Kd.Q_types HO264.out BK247.out (by decide)) (fun _ hk => hk.2) (.int .i64 t257)) (fun _ hk => hk.2) (.int .i64 t258)) (fun _ hk => hk.2) (.slice Ao6500261 t259.length co6500261)) (fun _ hk => hk.2) (.slice Ao32720 t262.length co32720)) (fun _ h_ => by first | exact h_.1 | simp only [h_, ne_eq, not_false_eq_true, and_self]))) (by decide)) hk (fun _ h => h.2)) (fun _ h => h.1)); replace HK := mk_ (KeepBut.trans (by repeat (first | (with_reducible first | exact HK.out | apply KeepBut.set_ | apply keep_drewN | apply keep_drew | apply keep_alloc | refine keep_far ?_ GW242.out _ | refine keep_far ?_ GW247.out _) | exact HK.out)) hk (.inl rfl)); replace HB := mk_ (hb); replace HI0 := mk_ (hi); replace BK247 := n3_; clear n3_))
   ·go_roundg k1
    case measure => have := HK1.out; omega
    case rel => exact ⟨(wrap64 (x6_1 - 1)), (t266), (t257), (t258), (t259), (t262), (.slice Ao6500261 t259.length co6500261), (.slice Ao32720 t262.length co32720), (by first | rfl | (simp; done) | (simp [*]; done)), H', ⟨by have := HK1.out; omega⟩, ⟨by (with_reducible repeat (first | apply Kd.R_alloc | apply Kd.R_drewN | apply Kd.R_drew)); exact Kd.R_mono HO261.out (fun _ hk => trivial)⟩, ⟨by (with_reducible repeat (first | apply Kd.Q_alloc | apply Kd.Q_drewN | apply Kd.Q_drew)); exact Kd.Q_mono HO264.out (fun _ hk => trivial)⟩, ⟨u_ BK242.out⟩, ⟨u_ BK247.out⟩, ⟨by repeat (first | (with_reducible first | exact HI0.out | apply IsS107.alloc | apply IsS107.drewN | apply IsS107.drew | apply IsS107.set_1 | refine IsS107.far ?_ NB0_242.out _ | refine IsS107.far ?_ NB0_247.out _) | exact HI0.out)⟩, ⟨by repeat (first | (with_reducible first | exact HK.out | apply KeepBut.set_ | apply keep_drewN | apply keep_drew | apply keep_alloc | refine keep_far ?_ GW242.out _ | refine keep_far ?_ GW247.out _) | exact HK.out)⟩, ⟨by repeat (first | (with_reducible first | exact HB.out | apply na_ | apply nn_ | apply nw_ | refine bs_ ?_ (IsS107.ge HI0.out) | refine bs_ ?_ GE242.out | refine bs_ ?_ GE247.out) | exact HB.out)⟩⟩
   ·have n0_ := mk_ (Kd.R_drew HO_248002.out)
    have n1_ := mk_ (Kd.Q_drew HO_248003.out)
    have n2_ := mk_ (Kd.R_drew HO256.out)
    have n3_ := mk_ (Kd.R_drew HO261.out)
    have n4_ := mk_ (Kd.Q_drew HO264.out)
    have n5_ := mk_ (blk_drew BK242.out)
    have n6_ := mk_ (blk_drew BK247.out)
    have n7_ := mk_ (IsS107.drew HI0.out)
    have n8_ := mk_ (keep_drew HK.out)
    have n9_ := mk_ (below_drew1 HB.out)
    clear HO_248002
    clear HO_248003
    clear HO256
    clear HO261
    clear HO264
    clear BK242
    clear BK247
    clear HI0
    clear HK
    clear HB
    have HO_248002 := n0_
    have HO_248003 := n1_
    have HO256 := n2_
    have HO261 := n3_
    have HO264 := n4_
    have BK242 := n5_
    have BK247 := n6_
    have HI0 := n7_
    have HK := n8_
    have HB := n9_
    clear n0_ n1_ n2_ n3_ n4_ n5_ n6_ n7_ n8_ n9_
    refine start_ (n := 8) (S := fun w' => w'.cell? ⟨gb247, 0, none⟩ = some (.int .i64 t257) ∧ w'.cell? ⟨gb247, 1, none⟩ = some (.int .i64 t258) ∧ w'.cell? ⟨gb247, 2, none⟩ = some (.slice Ao6500261 t259.length co6500261) ∧ w'.cell? ⟨gb247, 3, none⟩ = some (.slice Ao32720 t262.length co32720)) (ds := [7]) #[F_, F_, F_, F_, F_, F_, F_, F_] (by kernel_rfl) rfl rfl ⟨(blk_cell BK247.out 0).trans rfl, (blk_cell BK247.out 1).trans rfl, (blk_cell BK247.out 2).trans rfl, (blk_cell BK247.out 3).trans rfl⟩ (fun hHeld => ?_); refine with_tabW spec_l20Ear.tab8 spec_l20Ear.bits8 (fun HT_ HW_ => ?_)
    generalize w36960.drew = w37760 at HO_248002 HO_248003 HO256 HO261 HO264 BK242 BK247 HI0 HK HB hHeld ⊢
    refine pure_ (i := 1) (N := some 40) (v := ?_) (a' := ?_) #[F_, T_, F_, F_, F_, F_, F_, F_] rfl rfl (any_of HT_.out (by kernel_rfl)) (fun _ _ _ h => h) (Or.inl ⟨by rfl, ?_⟩) ?_ ?_
    rotate_left
    ·intro w'
     go_simp
     with_reducible rfl
    rotate_left
    ·simp only [Act.put, la_, lz_, ls_, i64_w, i32_w]
     rfl
    refine take_ (i := 0) (N := some 39) (v := ?_) (a' := ?_) #[T_, T_, F_, F_, F_, F_, F_, F_] rfl rfl (take_ofW HT_.out HW_.out (by kernel_rfl)) (fun _ _ _ h => h) (Or.inl ⟨by rfl, ?_⟩) hHeld ?_ ?_
    rotate_left
    ·rintro w' ⟨s16960, s16961, s16962, s16963⟩
     go_simp
     with_reducible rfl
    rotate_left
    ·simp only [Act.put, la_, lz_, ls_, i64_w, i32_w]
     rfl
    refine one_ (i := 2) (N := some 41) #[T_, T_, T_, F_, F_, F_, F_, F_] rfl rfl (one_of HT_.out (by kernel_rfl)) (by decide) (fun K hK => ?_)
    refine goes_ Try.func46 (by kernel_rfl) rfl #[.pointer (some ⟨g, 0, none⟩), .int .i64 5] (by rfl) rfl rfl (by (try simp only [lm_, lo_, ln_]); try rfl) ?_
    with_reducible refine (spec_l20Rd_pick.calls k1 g s0_0 t266 5 t267 t268 w0 _ ?side1 ?side2 A21.out).mono ?_
    (case side1 => repeat (first | (with_reducible first | exact HI0.out | apply IsS107.alloc | apply IsS107.drewN | apply IsS107.drew | apply IsS107.set_1 | refine IsS107.far ?_ NB0_242.out _ | refine IsS107.far ?_ NB0_247.out _) | exact HI0.out))
    (case side2 => repeat (first | (with_reducible first | exact HB.out | apply na_ | apply nn_ | apply nw_ | refine bs_ ?_ (IsS107.ge HI0.out) | refine bs_ ?_ GE242.out | refine bs_ ?_ GE247.out) | exact HB.out))
    rintro e w38000 ⟨rfl, hi, hb, hk⟩
    refine ⟨_, rfl, ?_⟩
    have n0_ := mk_ (Kd.R_mono (Kd.R_keep (IsS107.apart (show IsS107 w0 _ g s0_0 t266 from by repeat (first | (with_reducible first | exact HI0.out | apply IsS107.alloc | apply IsS107.drewN | apply IsS107.drew | apply IsS107.set_1 | refine IsS107.far ?_ NB0_242.out _ | refine IsS107.far ?_ NB0_247.out _) | exact HI0.out)) (Kd.ur_ HO_248002.out) (by decide)) hk (fun _ h => h.2)) (fun _ h => h.1))
    have n1_ := mk_ (Kd.Q_mono (Kd.Q_keep (IsS107.apartQ (show IsS107 w0 _ g s0_0 t266 from by repeat (first | (with_reducible first | exact HI0.out | apply IsS107.alloc | apply IsS107.drewN | apply IsS107.drew | apply IsS107.set_1 | refine IsS107.far ?_ NB0_242.out _ | refine IsS107.far ?_ NB0_247.out _) | exact HI0.out)) (by (with_reducible repeat (first | apply Kd.Q_alloc | apply Kd.Q_drewN | apply Kd.Q_drew)); exact HO_248003.out) (by decide)) hk (fun _ h => h.2)) (fun _ h => h.1))
    have n2_ := mk_ (KeepBut.blk hk (g' := gb242) (o := .cells #[.int .i64 0, .int .i64 0, .slice none 0 0, .slice none 0 0] 59 (0, 0)) (u_ BK242.out) NB242_0.out (by simp))
    have n3_ := mk_ (KeepBut.blk hk (g' := gb247) (o := .cells #[.int .i64 t257, .int .i64 t258, .slice Ao6500261 t259.length co6500261, .slice Ao32720 t262.length co32720] 59 (0, 0)) (u_ BK247.out) NB247_0.out (by simp))
    have n4_ := mk_ (Kd.R_mono (Kd.R_keep (IsS107.apart (show IsS107 w0 _ g s0_0 t266 from by repeat (first | (with_reducible first | exact HI0.out | apply IsS107.alloc | apply IsS107.drewN | apply IsS107.drew | apply IsS107.set_1 | refine IsS107.far ?_ NB0_242.out _ | refine IsS107.far ?_ NB0_247.out _) | exact HI0.out)) (Kd.ur_ HO256.out) (by decide)) hk (fun _ h => h.2)) (fun _ h => h.1))
    have n5_ := mk_ (Kd.R_mono (Kd.R_keep (IsS107.apart (show IsS107 w0 _ g s0_0 t266 from by repeat (first | (with_reducible first | exact HI0.out | apply IsS107.alloc | apply IsS107.drewN | apply IsS107.drew | apply IsS107.set_1 | refine IsS107.far ?_ NB0_242.out _ | refine IsS107.far ?_ NB0_247.out _) | exact HI0.out)) (Kd.ur_ HO261.out) (by decide)) hk (fun _ h => h.2)) (fun _ h => h.1))
    have n6_ := mk_ (Kd.Q_mono (Kd.Q_keep (IsS107.apartQ (show IsS107 w0 _ g s0_0 t266 from by repeat (first | (with_reducible first | exact HI0.out | apply IsS107.alloc | apply IsS107.drewN | apply IsS107.drew | apply IsS107.set_1 | refine IsS107.far ?_ NB0_242.out _ | refine IsS107.far ?_ NB0_247.out _) | exact HI0.out)) (by (with_reducible repeat (first | apply Kd.Q_alloc | apply Kd.Q_drewN | apply Kd.Q_drew)); exact HO264.out) (by decide)) hk (fun _ h => h.2)) (fun _ h => h.1))
    have n7_ := mk_ (KeepBut.trans (by repeat (first | (with_reducible first | exact HK.out | apply KeepBut.set_ | apply keep_drewN | apply keep_drew | apply keep_alloc | refine keep_far ?_ GW242.out _ | refine keep_far ?_ GW247.out _) | exact HK.out)) hk (.inl rfl))
    have n8_ := mk_ (hb)
    have n9_ := mk_ (hi)
    clear HO_248002
    clear HO_248003
    clear BK242
    clear BK247
    clear HO256
    clear HO261
    clear HO264
    clear HK
    clear HB
    clear HI0
    have HO_248002 := n0_
    have HO_248003 := n1_
    have BK242 := n2_
    have BK247 := n3_
    have HO256 := n4_
    have HO261 := n5_
    have HO264 := n6_
    have HK := n7_
    have HB := n8_
    have HI0 := n9_
    clear n0_ n1_ n2_ n3_ n4_ n5_ n6_ n7_ n8_ n9_
    (try clear hb)
    (try clear hb2)
    (try clear hk)
    (try clear hi)
    refine hK.out _ _ ⟨(blk_cell BK247.out 0).trans rfl, (blk_cell BK247.out 1).trans rfl, (blk_cell BK247.out 2).trans rfl, (blk_cell BK247.out 3).trans rfl⟩ (fun hHeld => ?_)
    clear hK K
    refine norm_ (a' := ?_) ?_ ?_
    rotate_left
    ·show Act.put _ (some 41) _ = _
     simp only [Act.put, la_, lz_, ls_, i64_w, i32_w]
     rfl
    refine one_ (i := 3) (N := some 42) #[T_, T_, T_, T_, F_, F_, F_, F_] rfl rfl (one_of HT_.out (by kernel_rfl)) (by decide) (fun K hK => ?_)
    refine goes_ Try.func113 (by kernel_rfl) rfl #[.agg #[.int .i64 t257, .int .i64 t258, .slice Ao6500261 t259.length co6500261, .slice Ao32720 t262.length co32720], .int .i64 t267] (by rfl) rfl rfl (by (try simp only [lm_, lo_, ln_]); try rfl) ?_
    with_reducible refine (spec_EarRead.calls k1 t257 t258 _ _ t259 _ _ t262 t267 t269 t270 t271 t274 t277 _ ?side1 ?side2 ?side3 ?side4 A22.out).mono ?_
    (case side1 => repeat (first | exact (Kd.R_reads' HO261.out).2.2 | (with_reducible refine Kd.C_alloc ?_ _) | (with_reducible refine Kd.C_drewN ?_ _) | (with_reducible refine Kd.C_drew ?_)))
    (case side2 => exact (Kd.R_reads' HO261.out).2.1)
    (case side3 => repeat (first | exact (Kd.Q_reads' HO264.out).2.2 | (with_reducible refine Kd.C_alloc ?_ _) | (with_reducible refine Kd.C_drewN ?_ _) | (with_reducible refine Kd.C_drew ?_)))
    (case side4 => exact (Kd.Q_reads' HO264.out).2.1)
    rintro e w39600 ⟨v39601, v39602, v39603, rfl, ho16960, ho16961, ho16962, hb⟩
    refine ⟨_, rfl, ?_⟩
    have n0_ := mk_ (Kd.R_mono (Kd.R_told (Kd.R_told (Kd.R_old (Kd.ur_ HO_248002.out) hb) (Kd.R_base ho16960)) (Kd.R_base ho16962)) (fun _ h_ => by first | exact h_.1 | simp only [h_, ne_eq, not_false_eq_true, and_self]))
    have n1_ := mk_ (Kd.Q_elder' (by (with_reducible repeat (first | apply Kd.Q_alloc | apply Kd.Q_drewN | apply Kd.Q_drew)); exact HO_248003.out) (Kd.R_base ho16961) hb)
    have n2_ := mk_ (Kd.R_mono (Kd.R_told (Kd.R_told (Kd.R_old (Kd.ur_ HO256.out) hb) (Kd.R_base ho16960)) (Kd.R_base ho16962)) (fun _ h_ => by first | exact h_.1 | simp only [h_, ne_eq, not_false_eq_true, and_self]))
    have n3_ := mk_ (Kd.R_mono (Kd.R_told (Kd.R_told (Kd.R_old (Kd.ur_ HO261.out) hb) (Kd.R_base ho16960)) (Kd.R_base ho16962)) (fun _ h_ => by first | exact h_.1 | simp only [h_, ne_eq, not_false_eq_true, and_self]))
    have n4_ := mk_ (Kd.Q_elder' (by (with_reducible repeat (first | apply Kd.Q_alloc | apply Kd.Q_drewN | apply Kd.Q_drew)); exact HO264.out) (Kd.R_base ho16961) hb)
    have n5_ := mk_ (Kd.R_lower (Kd.R_new' (Kd.R_new' (Kd.R_new' ho16960 (Kd.R_lt (Kd.ur_ HO_248002.out))) (Kd.R_lt (Kd.ur_ HO256.out))) (Kd.R_lt (Kd.ur_ HO261.out))) (keep_size (w := w) (g := g) (row := none) (by repeat (first | (with_reducible first | exact HK.out | apply KeepBut.set_ | apply keep_drewN | apply keep_drew | apply keep_alloc | refine keep_far ?_ GW242.out _ | refine keep_far ?_ GW247.out _) | exact HK.out))))
    have n6_ := mk_ (Kd.R_lower (Kd.R_new' (Kd.R_new' ho16961 (Kd.Q_lt (by (with_reducible repeat (first | apply Kd.Q_alloc | apply Kd.Q_drewN | apply Kd.Q_drew)); exact HO_248003.out))) (Kd.Q_lt (by (with_reducible repeat (first | apply Kd.Q_alloc | apply Kd.Q_drewN | apply Kd.Q_drew)); exact HO264.out))) (keep_size (w := w) (g := g) (row := none) (by repeat (first | (with_reducible first | exact HK.out | apply KeepBut.set_ | apply keep_drewN | apply keep_drew | apply keep_alloc | refine keep_far ?_ GW242.out _ | refine keep_far ?_ GW247.out _) | exact HK.out))))
    have n7_ := mk_ (Kd.R_lower (Kd.R_new' (Kd.R_new' (Kd.R_new' ho16962 (Kd.R_lt (Kd.ur_ HO_248002.out))) (Kd.R_lt (Kd.ur_ HO256.out))) (Kd.R_lt (Kd.ur_ HO261.out))) (keep_size (w := w) (g := g) (row := none) (by repeat (first | (with_reducible first | exact HK.out | apply KeepBut.set_ | apply keep_drewN | apply keep_drew | apply keep_alloc | refine keep_far ?_ GW242.out _ | refine keep_far ?_ GW247.out _) | exact HK.out))))
    have n8_ := mk_ (blk_below (u_ BK242.out) hb)
    have n9_ := mk_ (blk_below (u_ BK247.out) hb)
    have n10_ := mk_ (IsS107.below (by repeat (first | (with_reducible first | exact HI0.out | apply IsS107.alloc | apply IsS107.drewN | apply IsS107.drew | apply IsS107.set_1 | refine IsS107.far ?_ NB0_242.out _ | refine IsS107.far ?_ NB0_247.out _) | exact HI0.out)) hb)
    have n11_ := mk_ (KeepBut.trans (by repeat (first | (with_reducible first | exact HK.out | apply KeepBut.set_ | apply keep_drewN | apply keep_drew | apply keep_alloc | refine keep_far ?_ GW242.out _ | refine keep_far ?_ GW247.out _) | exact HK.out)) (KeepBut.of_below hb g none) (.inl rfl))
    have n12_ := mk_ (below_step (by repeat (first | (with_reducible first | exact HB.out | apply na_ | apply nn_ | apply nw_ | refine bs_ ?_ (IsS107.ge HI0.out) | refine bs_ ?_ GE242.out | refine bs_ ?_ GE247.out) | exact HB.out)) hb)
    clear HO_248002
    clear HO_248003
    clear HO256
    clear HO261
    clear HO264
    clear BK242
    clear BK247
    clear HI0
    clear HK
    clear HB
    have HO_248002 := n0_
    have HO_248003 := n1_
    have HO256 := n2_
    have HO261 := n3_
    have HO264 := n4_
    have HO273 := n5_
    have HO276 := n6_
    have HO279 := n7_
    have BK242 := n8_
    have BK247 := n9_
    have HI0 := n10_
    have HK := n11_
    have HB := n12_
    clear n0_ n1_ n2_ n3_ n4_ n5_ n6_ n7_ n8_ n9_ n10_ n11_ n12_
    (try clear hb)
    (try clear hb2)
    (try clear hk)
    (try clear hi)
    (try clear ho16960)
    (try clear ho16961)
    (try clear ho16962)
    obtain ⟨Ao10080273, co10080273, eo10080273⟩ := Kd.R_slice HO273.out
    (first | subst eo10080273 | (injection eo10080273 with f1_ f2_ f3_; have f4_ := f1_.symm; have f5_ := f3_.symm; clear f1_ f2_ f3_; subst f4_; subst f5_))
    obtain ⟨Ao10100276, co10100276, eo10100276⟩ := Kd.R_slice HO276.out
    (first | subst eo10100276 | (injection eo10100276 with f1_ f2_ f3_; have f4_ := f1_.symm; have f5_ := f3_.symm; clear f1_ f2_ f3_; subst f4_; subst f5_))
    refine hK.out _ _ ⟨(blk_cell BK247.out 0).trans rfl, (blk_cell BK247.out 1).trans rfl, (blk_cell BK247.out 2).trans rfl, (blk_cell BK247.out 3).trans rfl⟩ (fun hHeld => ?_)
    clear hK K
    refine norm_ (a' := ?_) ?_ ?_
    rotate_left
    ·show Act.put _ (some 42) _ = _
     simp only [Act.put, la_, lz_, ls_, i64_w, i32_w]
     rfl
    refine pure_ (i := 4) (N := some 38) (v := ?_) (a' := ?_) #[T_, T_, T_, T_, T_, F_, F_, F_] rfl rfl (any_of HT_.out (by kernel_rfl)) (fun _ _ _ h => h) (Or.inl ⟨by rfl, ?_⟩) ?_ ?_
    rotate_left
    ·intro w'
     go_simp
     with_reducible rfl
    rotate_left
    ·simp only [Act.put, la_, lz_, ls_, i64_w, i32_w]
     rfl
    refine pure_ (i := 5) (N := some 43) (v := ?_) (a' := ?_) #[T_, T_, T_, T_, T_, T_, F_, F_] rfl rfl (any_of HT_.out (by kernel_rfl)) (fun _ _ _ h => h) (Or.inl ⟨by rfl, ?_⟩) ?_ ?_
    rotate_left
    ·intro w'
     go_simp
     with_reducible rfl
    rotate_left
    ·simp only [Act.put, la_, lz_, ls_, i64_w, i32_w]
     rfl
    refine pure_ (i := 6) (N := some 44) (v := ?_) (a' := ?_) #[T_, T_, T_, T_, T_, T_, T_, F_] rfl rfl (any_of HT_.out (by kernel_rfl)) (fun _ _ _ h => h) (Or.inl ⟨by rfl, ?_⟩) ?_ ?_
    rotate_left
    ·intro w'
     go_simp
     with_reducible rfl
    rotate_left
    ·simp only [Act.put, la_, lz_, ls_, i64_w, i32_w]
     rfl
    refine last_ (i := 7) (N := none) #[T_, T_, T_, T_, T_, T_, T_, T_] rfl rfl (one_of HT_.out (by kernel_rfl)) (by decide) (fun K hK => ?_)
    have hs41680 : w39600.cell? ⟨gb247, 0, none⟩ = some (.int .i64 t257) := (blk_cell BK247.out 0).trans rfl
    have hfs41680 := blk_frozen BK247.out 0
    have hns41680_0 := NB242_247.out
    have hms41680_0 := NB247_242.out
    have hs41720 : w39600.cell? ⟨gb247, 1, none⟩ = some (.int .i64 t258) := (blk_cell BK247.out 1).trans rfl
    have hfs41720 := blk_frozen BK247.out 1
    have hns41720_0 := NB242_247.out
    have hms41720_0 := NB247_242.out
    have hs41760 : w39600.cell? ⟨gb247, 2, none⟩ = some (.slice Ao6500261 t259.length co6500261) := (blk_cell BK247.out 2).trans rfl
    have hfs41760 := blk_frozen BK247.out 2
    have hns41760_0 := NB242_247.out
    have hms41760_0 := NB247_242.out
    have hs41800 : w39600.cell? ⟨gb247, 3, none⟩ = some (.slice Ao32720 t262.length co32720) := (blk_cell BK247.out 3).trans rfl
    have hfs41800 := blk_frozen BK247.out 3
    have hns41800_0 := NB242_247.out
    have hms41800_0 := NB247_242.out
    refine skip_ (w1 := ?_) (by rfl) rfl ?_ ?_
    rotate_left
    ·go_simp
     rfl
    refine hK.out _ _ ?_
    clear hK K
    refine done_ (done_of HT_.out (by kernel_rfl)) ?_
    try go_wp2
    go_roundg k1
    case measure => have := HK1.out; omega
    case rel => exact ⟨(wrap64 (x6_1 - 1)), (t268), (t269), (t270), (t271), (t274), (.slice Ao10080273 t271.length co10080273), (.slice Ao10100276 t274.length co10100276), (by first | rfl | (simp; done) | (simp [*]; done)), H', ⟨by have := HK1.out; omega⟩, ⟨by (with_reducible repeat (first | apply Kd.R_alloc | apply Kd.R_drewN | apply Kd.R_drew)); exact Kd.R_mono (Kd.R_far (p := ⟨gb247, 3, none⟩) (Kd.R_far (p := ⟨gb247, 2, none⟩) (Kd.R_far (p := ⟨gb247, 1, none⟩) (Kd.R_far (p := ⟨gb247, 0, none⟩) (Kd.R_types HO273.out BK247.out (by decide)) (fun _ hk => hk.2) (.int .i64 t269)) (fun _ hk => hk.2) (.int .i64 t270)) (fun _ hk => hk.2) (.slice Ao10080273 t271.length co10080273)) (fun _ hk => hk.2) (.slice Ao10100276 t274.length co10100276)) (fun _ hk => trivial)⟩, ⟨Kd.Q_of_R (by (with_reducible repeat (first | apply Kd.R_alloc | apply Kd.R_drewN | apply Kd.R_drew)); exact Kd.R_mono (Kd.R_far (p := ⟨gb247, 3, none⟩) (Kd.R_far (p := ⟨gb247, 2, none⟩) (Kd.R_far (p := ⟨gb247, 1, none⟩) (Kd.R_far (p := ⟨gb247, 0, none⟩) (Kd.R_types HO276.out BK247.out (by decide)) (fun _ hk => hk.2) (.int .i64 t269)) (fun _ hk => hk.2) (.int .i64 t270)) (fun _ hk => hk.2) (.slice Ao10080273 t271.length co10080273)) (fun _ hk => hk.2) (.slice Ao10100276 t274.length co10100276)) (fun _ hk => trivial))⟩, ⟨uf_ BK242.out⟩, ⟨by (with_reducible repeat (first | refine bn_ ?_ _ | refine bw_ ?_ | refine ba_ ?_ _)); refine blk_put (cs := #[.int .i64 t269, .int .i64 t270, .slice Ao10080273 t271.length co10080273, .slice Ao32720 t262.length co32720]) ?_ 3 _ rfl; (with_reducible repeat (first | refine bn_ ?_ _ | refine bw_ ?_ | refine ba_ ?_ _)); refine blk_put (cs := #[.int .i64 t269, .int .i64 t270, .slice Ao6500261 t259.length co6500261, .slice Ao32720 t262.length co32720]) ?_ 2 _ rfl; (with_reducible repeat (first | refine bn_ ?_ _ | refine bw_ ?_ | refine ba_ ?_ _)); refine blk_put (cs := #[.int .i64 t269, .int .i64 t258, .slice Ao6500261 t259.length co6500261, .slice Ao32720 t262.length co32720]) ?_ 1 _ rfl; (with_reducible repeat (first | refine bn_ ?_ _ | refine bw_ ?_ | refine ba_ ?_ _)); refine blk_put (cs := #[.int .i64 t257, .int .i64 t258, .slice Ao6500261 t259.length co6500261, .slice Ao32720 t262.length co32720]) ?_ 0 _ rfl; (with_reducible repeat (first | refine bn_ ?_ _ | refine bw_ ?_ | refine ba_ ?_ _)); exact BK247.out⟩, ⟨by repeat (first | (with_reducible first | exact HI0.out | apply IsS107.alloc | apply IsS107.drewN | apply IsS107.drew | apply IsS107.set_1 | refine IsS107.far ?_ NB0_242.out _ | refine IsS107.far ?_ NB0_247.out _) | exact HI0.out)⟩, ⟨by repeat (first | (with_reducible first | exact HK.out | apply KeepBut.set_ | apply keep_drewN | apply keep_drew | apply keep_alloc | refine keep_far ?_ GW242.out _ | refine keep_far ?_ GW247.out _) | exact HK.out)⟩, ⟨by repeat (first | (with_reducible first | exact HB.out | apply na_ | apply nn_ | apply nw_ | refine bs_ ?_ (IsS107.ge HI0.out) | refine bs_ ?_ GE242.out | refine bs_ ?_ GE247.out) | exact HB.out)⟩⟩

end Go.Proofs.Ytkkibccnpkbbjab.MFnEarRanges
