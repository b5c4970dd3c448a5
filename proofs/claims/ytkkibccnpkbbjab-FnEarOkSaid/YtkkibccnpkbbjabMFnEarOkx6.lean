/- Functions that the law FnEarOk reaches, each with the proof that the machine's call comes to just its answer; no conditions but those that each theorem states. Printed by a program of this session over the kit's print. -/
import Derived.Test.YtkkibccnpkbbjabMFnEarOkx0
import Derived.Test.YtkkibccnpkbbjabMFnEarOkx1
import Derived.Test.YtkkibccnpkbbjabMFnEarOkx3
import Derived.Test.YtkkibccnpkbbjabMFnEarOkx4
import Derived.Test.YtkkibccnpkbbjabMFnEarOkx5
namespace Go.Proofs.Ytkkibccnpkbbjab.MFnEarOk
open Go.RowKit Go.Proofs.YtkkibccnpkbbjabV.PrintWords Go.Proofs.YtkkibccnpkbbjabV.PrintLast Go.Proofs.YtkkibccnpkbbjabV.PrintMore
attribute [local go_sem] max2_int min2_int max_two min_two max_three min_three max_four min_four   -- for this text's walks alone
set_option linter.unusedVariables false
set_option linter.unusedSimpArgs false

/-! ### spec_l20Ear: function 75 -/
def spec_l20Ear.l0 : Nat → Int → Int → List Int → Int → Int → Int → List Int → List (S68) → Option (Int × Int × List Int × (List (S68)) × Int)
 | 0, _, _, _, _, _, _, _, _ => none
 | k + 1, x1, x6, x1000, x1001, x238000, x238001, x238002, x238003 => if x6 > 0 then ((spec_l20Rd_pick.f k x1000 x1001 14).bind fun bt240 => ((spec_l20Rd_pick.f k x1000 bt240.2 5).bind fun bt242 => ((spec_l20Heard.f k (wrap64 ((wrap64 (x238000 + bt240.1)) - 4)) bt242.1).bind fun t244 => ((spec_EarHear.f k x238000 x238001 x238002 x238003 (wrap64 ((wrap64 (x238000 + bt240.1)) - 4)) t244).bind fun bt247 => ((spec_l20Rd_pick.f k x1000 bt242.2 4).bind fun bt255 => (if bt255.1 = 0 then ((spec_l20Rd_pick.f k x1000 bt255.2 5).bind fun bt257 => ((spec_EarRead.f k bt247.1 bt247.2.1 bt247.2.2.1 bt247.2.2.2 bt257.1).bind fun bt259 => (spec_l20Ear.l0 k x1 (wrap64 (x6 - 1)) x1000 bt257.2 bt259.1 bt259.2.1 bt259.2.2.1 bt259.2.2.2.1))) else (spec_l20Ear.l0 k x1 (wrap64 (x6 - 1)) x1000 bt255.2 bt247.1 bt247.2.1 bt247.2.2.1 bt247.2.2.2))))))) else ((spec_l20Rd_odd.f k x1000 x1001 x1).bind fun bt270 => (if bt270.1 = true then ((spec_l20Rd_pick.f k x1000 bt270.2 4).bind fun bt272 => (if bt272.1 = 0 then ((spec_l20Rd_pick.f k x1000 bt272.2 2).bind fun bt274 => (some (x238000, wrap64 (bt274.1 * 33), x238002, x238003, bt274.2))) else (if bt272.1 = 1 then (some ((-1), x238001, x238002, x238003, bt272.2)) else (if bt272.1 = 2 then ((spec_l20Rd_pick.f k x1000 bt272.2 40).bind fun bt276 => (if x238003.length < 8796093022208 then (some (x238000, x238001, x238002, (x238003 ++ [(⟨wrap64 ((wrap64 (x238000 + bt276.1)) - 3), 0⟩ : S68)]), bt276.2)) else (none))) else (if x238002.length + 20 < 140737488355328 then (some (x238000, x238001, (x238002 ++ List.replicate 20 0), x238003, bt272.2)) else (none)))))) else (some (x238000, x238001, x238002, x238003, bt270.2))))
def spec_l20Ear.f (k : Nat) (s0_0 : List Int) (s0_1 : Int) (a1 : Int) : Option (Int × Int × List Int × (List (S68)) × Int) := (spec_l20Rd_pick.f k s0_0 s0_1 3).bind fun bt233 => ((spec_l20Rd_pick.f k s0_0 bt233.2 20).bind fun bt235 => ((spec_l20Rd_pick.f k s0_0 bt235.2 6).bind fun bt238 => (spec_l20Ear.l0 k a1 bt238.1 s0_0 bt238.2 (wrap64 (100 + (wrap64 (bt233.1 * 40)))) (wrap64 (4 + bt235.1)) ([] : List Int) ([] : List (S68)))))
theorem spec_l20Ear.mono_l : ∀ k, (∀ y0 y1 y2 y3 y4 y5 y6 y7, LeO (spec_l20Ear.l0 k y0 y1 y2 y3 y4 y5 y6 y7) (spec_l20Ear.l0 (k + 1) y0 y1 y2 y3 y4 y5 y6 y7))
 | 0 => fun _ _ _ _ _ _ _ _ r h => by simp [spec_l20Ear.l0] at h
 | k + 1 => by
  have ih0 := spec_l20Ear.mono_l k
  ·intro y0 y1 y2 y3 y4 y5 y6 y7
   unfold spec_l20Ear.l0
   repeat' first
   | (with_reducible exact ih0 _ _ _ _ _ _ _ _)
   | (with_reducible exact spec_EarHear.mono _ _ _ _ _ _ _)
   | (with_reducible exact spec_EarRead.mono _ _ _ _ _ _)
   | (with_reducible exact spec_l20Heard.mono _ _ _)
   | (with_reducible exact spec_l20Rd_odd.mono _ _ _ _)
   | (with_reducible exact spec_l20Rd_pick.mono _ _ _ _)
   | (with_reducible exact LeO.refl _)
   | (with_reducible exact LeO.none _)
   | (with_reducible refine LeO.ite ?_ ?_)
   | (with_reducible refine LeO.bind ?_ (fun _ => ?_))
   | exact ih0 _ _ _ _ _ _ _ _
   | exact spec_EarHear.mono _ _ _ _ _ _ _
   | exact spec_EarRead.mono _ _ _ _ _ _
   | exact spec_l20Heard.mono _ _ _
   | exact spec_l20Rd_odd.mono _ _ _ _
   | exact spec_l20Rd_pick.mono _ _ _ _
   | exact LeO.none _
   | refine LeO.ite ?_ ?_
   | refine LeO.bind ?_ (fun _ => ?_)
theorem spec_l20Ear.mono : ∀ a0 a1 a2 k, LeO (spec_l20Ear.f k a0 a1 a2) (spec_l20Ear.f (k + 1) a0 a1 a2) := by
 intro a0 a1 a2 k
 have ih0 := spec_l20Ear.mono_l k
 unfold spec_l20Ear.f
 repeat' first
   | (with_reducible exact ih0 _ _ _ _ _ _ _ _)
   | (with_reducible exact spec_EarHear.mono _ _ _ _ _ _ _)
   | (with_reducible exact spec_EarRead.mono _ _ _ _ _ _)
   | (with_reducible exact spec_l20Heard.mono _ _ _)
   | (with_reducible exact spec_l20Rd_odd.mono _ _ _ _)
   | (with_reducible exact spec_l20Rd_pick.mono _ _ _ _)
   | (with_reducible exact LeO.refl _)
   | (with_reducible exact LeO.none _)
   | (with_reducible refine LeO.ite ?_ ?_)
   | (with_reducible refine LeO.bind ?_ (fun _ => ?_))
   | exact ih0 _ _ _ _ _ _ _ _
   | exact spec_EarHear.mono _ _ _ _ _ _ _
   | exact spec_EarRead.mono _ _ _ _ _ _
   | exact spec_l20Heard.mono _ _ _
   | exact spec_l20Rd_odd.mono _ _ _ _
   | exact spec_l20Rd_pick.mono _ _ _ _
   | exact LeO.none _
   | refine LeO.ite ?_ ?_
   | refine LeO.bind ?_ (fun _ => ?_)
def spec_l20Ear.T6 : Bool × List (List Nat × List Nat) := (true, [([], []), ([], []), ([], []), ([], []), ([3], [3]), ([2, 4, 4], [2, 4]), ([0, 1, 5, 5], [0, 1, 5]), ([6, 6, 0, 1, 2, 3, 4, 5, 6], [6])])
def spec_l20Ear.B6 : List Nat := [0, 0, 0, 0, 8, 28, 63, 127]
theorem spec_l20Ear.tab6 : rtab .any (opsOf Try.f75 6) = spec_l20Ear.T6 := by kernel_rfl
theorem spec_l20Ear.bits6 : waitsOk spec_l20Ear.T6.2 spec_l20Ear.B6 = true := by kernel_rfl
def spec_l20Ear.T8 : Bool × List (List Nat × List Nat) := (true, [([], []), ([], []), ([1], [1]), ([0, 2, 2], [0, 2]), ([3], [3]), ([4], [4]), ([4], [4]), ([5, 3, 0, 1, 2, 3, 4, 5], [5])])
def spec_l20Ear.B8 : List Nat := [0, 0, 2, 7, 15, 31, 31, 63]
theorem spec_l20Ear.tab8 : rtab .any (opsOf Try.f75 8) = spec_l20Ear.T8 := by kernel_rfl
theorem spec_l20Ear.bits8 : waitsOk spec_l20Ear.T8.2 spec_l20Ear.B8 = true := by kernel_rfl
def spec_l20Ear.T17 : Bool × List (List Nat × List Nat) := (true, [([], []), ([0], [0]), ([], []), ([2], [2]), ([], []), ([4], [4]), ([3, 5], [3, 5]), ([6], [6]), ([7], [7]), ([8], [8]), ([1, 9, 5], [1, 9]), ([0, 1, 2, 3, 4, 5, 6, 7, 8, 9, 10], []), ([11, 10, 10, 0, 1, 2, 3, 4, 5, 6, 7, 8, 9, 10], [10, 11])])
def spec_l20Ear.B17 : List Nat := [0, 1, 0, 4, 0, 16, 60, 124, 252, 508, 1023, 2047, 4095]
theorem spec_l20Ear.tab17 : rtab .any (opsOf Try.f75 17) = spec_l20Ear.T17 := by kernel_rfl
theorem spec_l20Ear.bits17 : waitsOk spec_l20Ear.T17.2 spec_l20Ear.B17 = true := by kernel_rfl
set_option maxHeartbeats 8000000 in
set_option maxRecDepth 100000 in
theorem spec_l20Ear.calls (k : Nat) (g : Nat) (s0_0 : List Int) (s0_1 : Int) (a1 : Int) (r1 : Int) (r2 : Int) (r3 : List Int) (r4 : List (S68)) (r5 : Int) (w0 w : World) (hI : IsS107 w0 w g s0_0 s0_1) (hB : Below w0.heap.size w0 w) (h : spec_l20Ear.f k s0_0 s0_1 a1 = some (r1, r2, r3, r4, r5)) :
  Calls Try.prog 75 #[.pointer (some ⟨g, 0, none⟩), .int .i64 a1] w fun e w' => ∃ v2_ v3_ : Value, e = .returned (.agg #[.int .i64 r1, .int .i64 r2, v2_, v3_]) ∧ Kd.R (Kd.int .u8) 5 w' w.heap.size (fun _ => True) v2_ r3 ∧ Kd.Q k68 68 w' w.heap.size (fun _ => True) v3_ r4 ∧ IsS107 w0 w' g s0_0 r5 ∧ Below w0.heap.size w0 w' ∧ KeepBut w w' g none := by
 have hu59 := Try.underlying59
 have hu68 := Try.underlying68
 have HI0 := mk_ hI
 have HK := mk_ (KeepBut.refl w g none)
 have HL := mk_ hB.size
 clear hI
 have HW0 := mk_ hB.size
 have HB := mk_ hB
 clear hB
 have H := h
 unfold spec_l20Ear.f at H
 clear h
 replace H := Option.bind_eq_some_iff.mp H
 obtain ⟨⟨t233, t234⟩, A30, H⟩ := H
 (try dsimp only at H)
 have A3 := mk_ A30
 clear A30
 replace H := Option.bind_eq_some_iff.mp H
 obtain ⟨⟨t235, t236⟩, A40, H⟩ := H
 (try dsimp only at H)
 have A4 := mk_ A40
 clear A40
 replace H := Option.bind_eq_some_iff.mp H
 obtain ⟨⟨t238, t239⟩, A50, H⟩ := H
 (try dsimp only at H)
 have A5 := mk_ A50
 clear A50
 have H' := mk_ H
 clear H
 go_enter Try.func75, Try.ntmps75
 go_wp2_with (first | ((with_reducible refine gate_dst (N := 4) rfl ?_); refine box_event ?hg (N := 4) ?hd (cs := #[.int .i64 0, .int .i64 0, .slice none 0 0, .slice none 0 0]) (t := 59) ?hr ?_; (case hd => rfl); (case hg => rfl); (case hr => first | (go_simp; done) | (go_simp; rfl)); intro gb232 hg w6 hbox hb; have n0_ := mk_ (IsS107.below (by repeat (first | (with_reducible first | exact HI0.out | apply IsS107.alloc | apply IsS107.drewN | apply IsS107.drew | apply IsS107.set_1) | exact HI0.out)) hb); have n1_ := mk_ (KeepBut.trans (by repeat (first | (with_reducible first | exact HK.out | apply KeepBut.set_ | apply keep_drewN | apply keep_drew | apply keep_alloc) | exact HK.out)) (KeepBut.of_below hb g none) (.inl rfl)); replace HB := mk_ (below_step (by repeat (first | (with_reducible first | exact HB.out | apply na_ | apply nn_ | apply nw_ | refine bs_ ?_ (IsS107.ge HI0.out)) | exact HB.out)) hb); have BK232 := mk_ (hbox); have GW232 := mk_ ((by rw [hg]; exact (keep_size (w := w) (g := g) (row := none) (by repeat (first | (with_reducible first | exact HK.out | apply KeepBut.set_ | apply keep_drewN | apply keep_drew | apply keep_alloc) | exact HK.out))) : w.heap.size ≤ gb232)); have GE232 := ge_ ((Nat.le_trans HW0.out (by rw [hg]; exact (keep_size (w := w) (g := g) (row := none) (by repeat (first | (with_reducible first | exact HK.out | apply KeepBut.set_ | apply keep_drewN | apply keep_drew | apply keep_alloc) | exact HK.out))) : w.heap.size ≤ gb232) : w0.heap.size ≤ gb232)); have NB0_232 := nq_ ((by rw [hg]; exact Nat.ne_of_lt (IsS107.lt (show IsS107 w0 _ g s0_0 s0_1 from by repeat (first | (with_reducible first | exact HI0.out | apply IsS107.alloc | apply IsS107.drewN | apply IsS107.drew | apply IsS107.set_1) | exact HI0.out))) : g ≠ gb232)); have NB232_0 := nq_ ((by rw [hg]; exact Nat.ne_of_gt (IsS107.lt (show IsS107 w0 _ g s0_0 s0_1 from by repeat (first | (with_reducible first | exact HI0.out | apply IsS107.alloc | apply IsS107.drewN | apply IsS107.drew | apply IsS107.set_1) | exact HI0.out))) : gb232 ≠ g)); replace HI0 := n0_; replace HK := n1_; clear n0_ n1_; clear hb hbox hg) | ((with_reducible refine gate_callee (f := 46) rfl ?_); have hA_ := A3.out; refine goesL_ (some 9) rfl rfl Try.func46 (by kernel_rfl) rfl #[.pointer (some ⟨g, 0, none⟩), .int .i64 3] rfl (by (try simp only [lm_, lo_, ln_]); try rfl) ?_; (with_reducible refine (spec_l20Rd_pick.calls k g s0_0 s0_1 3 t233 t234 w0 _ ?side1 ?side2 A3.out).mono ?_); (case side1 => repeat (first | (with_reducible first | exact HI0.out | apply IsS107.alloc | apply IsS107.drewN | apply IsS107.drew | apply IsS107.set_1 | refine IsS107.far ?_ NB0_232.out _) | exact HI0.out)); (case side2 => repeat (first | (with_reducible first | exact HB.out | apply na_ | apply nn_ | apply nw_ | refine bs_ ?_ (IsS107.ge HI0.out) | refine bs_ ?_ GE232.out) | exact HB.out)); rintro e w7 ⟨rfl, hi, hb, hk⟩; refine ⟨_, rfl, ?_⟩; replace BK232 := mk_ (KeepBut.blk hk (g' := gb232) (o := .cells #[.int .i64 0, .int .i64 0, .slice none 0 0, .slice none 0 0] 59 (0, 0)) (u_ BK232.out) NB232_0.out (by simp)); replace HK := mk_ (KeepBut.trans (by repeat (first | (with_reducible first | exact HK.out | apply KeepBut.set_ | apply keep_drewN | apply keep_drew | apply keep_alloc | refine keep_far ?_ GW232.out _) | exact HK.out)) hk (.inl rfl)); replace HB := mk_ (hb); replace HI0 := mk_ (hi); clear hA_ A3) | ((with_reducible refine gate_callee (f := 46) rfl ?_); have hA_ := A4.out; refine goesL_ (some 13) rfl rfl Try.func46 (by kernel_rfl) rfl #[.pointer (some ⟨g, 0, none⟩), .int .i64 20] rfl (by (try simp only [lm_, lo_, ln_]); try rfl) ?_; (with_reducible refine (spec_l20Rd_pick.calls k g s0_0 t234 20 t235 t236 w0 _ ?side1 ?side2 A4.out).mono ?_); (case side1 => repeat (first | (with_reducible first | exact HI0.out | apply IsS107.alloc | apply IsS107.drewN | apply IsS107.drew | apply IsS107.set_1 | refine IsS107.far ?_ NB0_232.out _) | exact HI0.out)); (case side2 => repeat (first | (with_reducible first | exact HB.out | apply na_ | apply nn_ | apply nw_ | refine bs_ ?_ (IsS107.ge HI0.out) | refine bs_ ?_ GE232.out) | exact HB.out)); rintro e w8 ⟨rfl, hi, hb, hk⟩; refine ⟨_, rfl, ?_⟩; replace BK232 := mk_ (KeepBut.blk hk (g' := gb232) (o := .cells #[.int .i64 0, .int .i64 0, .slice none 0 0, .slice none 0 0] 59 (0, 0)) (u_ BK232.out) NB232_0.out (by simp)); replace HK := mk_ (KeepBut.trans (by repeat (first | (with_reducible first | exact HK.out | apply KeepBut.set_ | apply keep_drewN | apply keep_drew | apply keep_alloc | refine keep_far ?_ GW232.out _) | exact HK.out)) hk (.inl rfl)); replace HB := mk_ (hb); replace HI0 := mk_ (hi); clear hA_ A4) | ((with_reducible refine gate_dst (N := 5) rfl ?_); refine box_event ?hg (N := 5) ?hd (cs := #[.int .i64 0, .int .i64 0, .slice none 0 0, .slice none 0 0]) (t := 59) ?hr ?_; (case hd => rfl); (case hg => rfl); (case hr => first | (go_simp; done) | (go_simp; rfl)); intro gb237 hg w9 hbox hb; have n0_ := mk_ (IsS107.below (by repeat (first | (with_reducible first | exact HI0.out | apply IsS107.alloc | apply IsS107.drewN | apply IsS107.drew | apply IsS107.set_1 | refine IsS107.far ?_ NB0_232.out _) | exact HI0.out)) hb); have n1_ := mk_ (blk_below (u_ BK232.out) hb); have n2_ := mk_ (KeepBut.trans (by repeat (first | (with_reducible first | exact HK.out | apply KeepBut.set_ | apply keep_drewN | apply keep_drew | apply keep_alloc | refine keep_far ?_ GW232.out _) | exact HK.out)) (KeepBut.of_below hb g none) (.inl rfl)); replace HB := mk_ (below_step (by repeat (first | (with_reducible first | exact HB.out | apply na_ | apply nn_ | apply nw_ | refine bs_ ?_ (IsS107.ge HI0.out) | refine bs_ ?_ GE232.out) | exact HB.out)) hb); have BK237 := mk_ (hbox); have GW237 := mk_ ((by rw [hg]; exact (keep_size (w := w) (g := g) (row := none) (by repeat (first | (with_reducible first | exact HK.out | apply KeepBut.set_ | apply keep_drewN | apply keep_drew | apply keep_alloc | refine keep_far ?_ GW232.out _) | exact HK.out))) : w.heap.size ≤ gb237)); have GE237 := ge_ ((Nat.le_trans HW0.out (by rw [hg]; exact (keep_size (w := w) (g := g) (row := none) (by repeat (first | (with_reducible first | exact HK.out | apply KeepBut.set_ | apply keep_drewN | apply keep_drew | apply keep_alloc | refine keep_far ?_ GW232.out _) | exact HK.out))) : w.heap.size ≤ gb237) : w0.heap.size ≤ gb237)); have NB232_237 := nq_ ((by rw [hg]; exact Nat.ne_of_lt (blk_lt (u_ BK232.out)) : gb232 ≠ gb237)); have NB237_232 := nq_ ((by rw [hg]; exact Nat.ne_of_gt (blk_lt (u_ BK232.out)) : gb237 ≠ gb232)); have NB0_237 := nq_ ((by rw [hg]; exact Nat.ne_of_lt (IsS107.lt (show IsS107 w0 _ g s0_0 t236 from by repeat (first | (with_reducible first | exact HI0.out | apply IsS107.alloc | apply IsS107.drewN | apply IsS107.drew | apply IsS107.set_1 | refine IsS107.far ?_ NB0_232.out _) | exact HI0.out))) : g ≠ gb237)); have NB237_0 := nq_ ((by rw [hg]; exact Nat.ne_of_gt (IsS107.lt (show IsS107 w0 _ g s0_0 t236 from by repeat (first | (with_reducible first | exact HI0.out | apply IsS107.alloc | apply IsS107.drewN | apply IsS107.drew | apply IsS107.set_1 | refine IsS107.far ?_ NB0_232.out _) | exact HI0.out))) : gb237 ≠ g)); replace HI0 := n0_; replace BK232 := n1_; replace HK := n2_; clear n0_ n1_ n2_; clear hb hbox hg; have hnb10 := NB237_232.out; have hnc10 := NB232_237.out; have hnb11 := NB237_0.out; have hnc11 := NB0_237.out; obtain ⟨hcz12_0, hcz12_1, hcz12_2, hcz12_3, hfz12_0, hfz12_1, hfz12_2, hfz12_3⟩ := cells4_ BK237.out) | ((with_reducible refine gate_callee (f := 46) rfl ?_); have hA_ := A5.out; refine goesL_ (some 17) rfl rfl Try.func46 (by kernel_rfl) rfl #[.pointer (some ⟨g, 0, none⟩), .int .i64 6] rfl (by (try simp only [lm_, lo_, ln_]); try rfl) ?_; (with_reducible refine (spec_l20Rd_pick.calls k g s0_0 t236 6 t238 t239 w0 _ ?side1 ?side2 A5.out).mono ?_); (case side1 => repeat (first | (with_reducible first | exact HI0.out | apply IsS107.alloc | apply IsS107.drewN | apply IsS107.drew | apply IsS107.set_1 | refine IsS107.far ?_ NB0_232.out _ | refine IsS107.far ?_ NB0_237.out _) | exact HI0.out)); (case side2 => repeat (first | (with_reducible first | exact HB.out | apply na_ | apply nn_ | apply nw_ | refine bs_ ?_ (IsS107.ge HI0.out) | refine bs_ ?_ GE232.out | refine bs_ ?_ GE237.out) | exact HB.out)); rintro e w13 ⟨rfl, hi, hb, hk⟩; refine ⟨_, rfl, ?_⟩; replace BK232 := mk_ (KeepBut.blk hk (g' := gb232) (o := .cells #[.int .i64 0, .int .i64 0, .slice none 0 0, .slice none 0 0] 59 (0, 0)) (uf_ BK232.out) NB232_0.out (by simp)); replace BK237 := mk_ (KeepBut.blk hk (g' := gb237) (o := .cells #[.int .i64 (wrap64 (100 + (wrap64 (t233 * 40)))), .int .i64 (wrap64 (4 + t235)), .slice none 0 0, .slice none 0 0] 59 (0, 0)) (by (with_reducible repeat (first | refine bn_ ?_ _ | refine bw_ ?_ | refine ba_ ?_ _)); refine blk_put (cs := #[.int .i64 (wrap64 (100 + (wrap64 (t233 * 40)))), .int .i64 (wrap64 (4 + t235)), .slice none 0 0, .slice none 0 0]) ?_ 3 _ rfl; (with_reducible repeat (first | refine bn_ ?_ _ | refine bw_ ?_ | refine ba_ ?_ _)); refine blk_put (cs := #[.int .i64 (wrap64 (100 + (wrap64 (t233 * 40)))), .int .i64 (wrap64 (4 + t235)), .slice none 0 0, .slice none 0 0]) ?_ 2 _ rfl; (with_reducible repeat (first | refine bn_ ?_ _ | refine bw_ ?_ | refine ba_ ?_ _)); refine blk_put (cs := #[.int .i64 (wrap64 (100 + (wrap64 (t233 * 40)))), .int .i64 0, .slice none 0 0, .slice none 0 0]) ?_ 1 _ rfl; (with_reducible repeat (first | refine bn_ ?_ _ | refine bw_ ?_ | refine ba_ ?_ _)); refine blk_put (cs := #[.int .i64 0, .int .i64 0, .slice none 0 0, .slice none 0 0]) ?_ 0 _ rfl; (with_reducible repeat (first | refine bn_ ?_ _ | refine bw_ ?_ | refine ba_ ?_ _)); exact BK237.out) NB237_0.out (by simp)); replace HK := mk_ (KeepBut.trans (by repeat (first | (with_reducible first | exact HK.out | apply KeepBut.set_ | apply keep_drewN | apply keep_drew | apply keep_alloc | refine keep_far ?_ GW232.out _ | refine keep_far ?_ GW237.out _) | exact HK.out)) hk (.inl rfl)); replace HB := mk_ (hb); replace HI0 := mk_ (hi); clear hA_ A5))
 go_loopg [6] k (fun kq v6 w' => ∃ (x6_1 : Int) (x1001_1 : Int) (x238000_1 : Int) (x238001_1 : Int) (x238002_1 : List Int) (x238003_1 : List (S68)) (u238002 : Value) (u238003 : Value), v6 = .int .i64 x6_1 ∧ Aside0 (spec_l20Ear.l0 kq a1 x6_1 s0_0 x1001_1 x238000_1 x238001_1 x238002_1 x238003_1 = some (r1, r2, r3, r4, r5)) ∧ Aside0 (kq ≤ k) ∧ Aside0 (Kd.R (Kd.int .u8) 5 w' w.heap.size (fun _ => True) u238002 x238002_1) ∧ Aside0 (Kd.Q k68 68 w' w.heap.size (fun _ => True) u238003 x238003_1) ∧ Aside0 (w'.heap[gb232]? = some (.cells #[.int .i64 0, .int .i64 0, (.slice none 0 0), (.slice none 0 0)] 59 (0, 0))) ∧ Aside0 (w'.heap[gb237]? = some (.cells #[.int .i64 x238000_1, .int .i64 x238001_1, u238002, u238003] 59 (0, 0))) ∧ Aside0 (IsS107 w0 w' g s0_0 x1001_1) ∧ Aside0 (KeepBut w w' g none) ∧ Aside0 (Below w0.heap.size w0 w'))
 case atStart => exact ⟨(t238), (t239), (wrap64 (100 + (wrap64 (t233 * 40)))), (wrap64 (4 + t235)), (([] : List Int)), (([] : List (S68))), (.slice none 0 0), (.slice none 0 0), (by first | rfl | (simp; done) | (simp [*]; done)), H', ⟨Nat.le_refl _⟩, ⟨by first | exact Kd.R_nil _ _ _ _ _ | exact Kd.N_nil _ _ _ _ _ | exact Kd.V_nil _ _ _ _ _ | exact Kd.Q_nil _ _ _ _ _ | exact Kd.S_nil _ _ _ _ _⟩, ⟨Kd.Q_of_R (by first | exact Kd.R_nil _ _ _ _ _ | exact Kd.N_nil _ _ _ _ _ | exact Kd.V_nil _ _ _ _ _ | exact Kd.Q_nil _ _ _ _ _ | exact Kd.S_nil _ _ _ _ _)⟩, ⟨u_ BK232.out⟩, ⟨u_ BK237.out⟩, ⟨by repeat (first | (with_reducible first | exact HI0.out | apply IsS107.alloc | apply IsS107.drewN | apply IsS107.drew | apply IsS107.set_1 | refine IsS107.far ?_ NB0_232.out _ | refine IsS107.far ?_ NB0_237.out _) | exact HI0.out)⟩, ⟨by repeat (first | (with_reducible first | exact HK.out | apply KeepBut.set_ | apply keep_drewN | apply keep_drew | apply keep_alloc | refine keep_far ?_ GW232.out _ | refine keep_far ?_ GW237.out _) | exact HK.out)⟩, ⟨by repeat (first | (with_reducible first | exact HB.out | apply na_ | apply nn_ | apply nw_ | refine bs_ ?_ (IsS107.ge HI0.out) | refine bs_ ?_ GE232.out | refine bs_ ?_ GE237.out) | exact HB.out)⟩⟩
 case round =>
  clear H'
  try clear c1
  try clear p2
  try clear c4
  try clear p6
  try clear c7
  try clear c10
  try clear c11
  try clear hcz12_0
  try clear hcz12_1
  try clear hcz12_2
  try clear hcz12_3
  try clear hfz12_0
  try clear hfz12_1
  try clear hfz12_2
  try clear hfz12_3
  obtain ⟨x6_1, x1001_1, x238000_1, x238001_1, x238002_1, x238003_1, u238002, u238003, rfl, HA, HK1, HO_238002, HO_238003, BK232, BK237, HI0, HK, HB⟩ := hrel
  cases gk with
  | zero => exact absurd HA.out (by simp [spec_l20Ear.l0])
  | succ k1 =>
   have H := HA.out
   clear HA
   simp only [spec_l20Ear.l0] at H
   by_cases c14 : x6_1 > 0
   rotate_left
   focus
    rw [if_neg c14] at H
    have c14b0 : decide (0 < x6_1) = false := decide_eq_false c14
    clear c14
    replace H := Option.bind_eq_some_iff.mp H
    obtain ⟨⟨t270, t271⟩, A640, H⟩ := H
    (try dsimp only at H)
    have A64 := mk_ A640
    clear A640
    by_cases c65 : t270 = true
    rotate_left
    focus
     replace c65 := Bool.eq_false_iff.mpr c65
     subst c65
     rw [if_neg (show ¬ (false = true) by decide)] at H
     simp only [Option.some.injEq, Prod.mk.injEq] at H
     obtain ⟨rfl, rfl, rfl, rfl, rfl⟩ := H
    rotate_left
    focus
     subst c65
     rw [if_pos rfl] at H
     replace H := Option.bind_eq_some_iff.mp H
     obtain ⟨⟨t272, t273⟩, A660, H⟩ := H
     (try dsimp only at H)
     have A66 := mk_ A660
     clear A660
     by_cases c67 : t272 = 0
     focus
      rw [if_pos c67] at H
      have c67b0 : (t272 == 0) = true := beq_iff_eq.mpr c67
      have c67b1 : (t272 != 0) = false := bne_eq_false_iff_eq.mpr c67
      clear c67
      replace H := Option.bind_eq_some_iff.mp H
      obtain ⟨⟨t274, t275⟩, A680, H⟩ := H
      replace H : (some (x238000_1, wrap64 (t274 * 33), x238002_1, x238003_1, t275)) = some (r1, r2, r3, r4, r5) := H
      have A68 := mk_ A680
      clear A680
      simp only [Option.some.injEq, Prod.mk.injEq] at H
      obtain ⟨rfl, rfl, rfl, rfl, rfl⟩ := H
     rotate_left
     focus
      rw [if_neg c67] at H
      have c67b0 : (t272 == 0) = false := beq_eq_false_iff_ne.mpr c67
      have c67b1 : (t272 != 0) = true := bne_iff_ne.mpr c67
      by_cases c79 : t272 = 1
      focus
       rw [if_pos c79] at H
       have c79b0 : (t272 == 1) = true := beq_iff_eq.mpr c79
       have c79b1 : (t272 != 1) = false := bne_eq_false_iff_eq.mpr c79
       clear c79
       simp only [Option.some.injEq, Prod.mk.injEq] at H
       obtain ⟨rfl, rfl, rfl, rfl, rfl⟩ := H
      rotate_left
      focus
       rw [if_neg c79] at H
       have c79b0 : (t272 == 1) = false := beq_eq_false_iff_ne.mpr c79
       have c79b1 : (t272 != 1) = true := bne_iff_ne.mpr c79
       by_cases c89 : t272 = 2
       rotate_left
       focus
        rw [if_neg c89] at H
        have c89b0 : (t272 == 2) = false := beq_eq_false_iff_ne.mpr c89
        have c89b1 : (t272 != 2) = true := bne_iff_ne.mpr c89
        by_cases c105 : x238002_1.length + 20 < 140737488355328
        rotate_left
        ·rw [if_neg c105] at H
         exact absurd H (by simp)
        rw [if_pos c105] at H
        have LMc105 := mk_ c105
        clear c105
        obtain ⟨y281, hy281⟩ : ∃ y_ : List Int, y_ = (x238002_1 ++ List.replicate 20 0) := ⟨_, rfl⟩
        replace H : (some (x238000_1, x238001_1, y281, x238003_1, t273)) = some (r1, r2, r3, r4, r5) := by first | (rw [hy281]; with_reducible exact H) | (have H2_ := (Option.bind_some _ _).symm.trans H; rw [hy281]; with_reducible exact H2_) | (have H2_ := (Option.bind_some _ _).symm.trans H; with_reducible exact H2_) | with_reducible exact H | (rw [hy281]; exact H) | exact H
        have Ny281 := mk_ hy281
        clear hy281
        simp only [Option.some.injEq, Prod.mk.injEq] at H
        obtain ⟨rfl, rfl, rfl, rfl, rfl⟩ := H
       rotate_left
       focus
        rw [if_pos c89] at H
        have c89b0 : (t272 == 2) = true := beq_iff_eq.mpr c89
        have c89b1 : (t272 != 2) = false := bne_eq_false_iff_eq.mpr c89
        clear c89
        replace H := Option.bind_eq_some_iff.mp H
        obtain ⟨⟨t276, t277⟩, A900, H⟩ := H
        (try dsimp only at H)
        have A90 := mk_ A900
        clear A900
        by_cases c91 : x238003_1.length < 8796093022208
        rotate_left
        ·rw [if_neg c91] at H
         exact absurd H (by simp)
        rw [if_pos c91] at H
        have LMc91 := mk_ c91
        clear c91
        obtain ⟨y278, hy278⟩ : ∃ y_ : List (S68), y_ = (x238003_1 ++ [(⟨wrap64 ((wrap64 (x238000_1 + t276)) - 3), 0⟩ : S68)]) := ⟨_, rfl⟩
        replace H : (some (x238000_1, x238001_1, x238002_1, y278, t277)) = some (r1, r2, r3, r4, r5) := by first | (rw [hy278]; with_reducible exact H) | (have H2_ := (Option.bind_some _ _).symm.trans H; rw [hy278]; with_reducible exact H2_) | (have H2_ := (Option.bind_some _ _).symm.trans H; with_reducible exact H2_) | with_reducible exact H | (rw [hy278]; exact H) | exact H
        have Ny278 := mk_ hy278
        clear hy278
        simp only [Option.some.injEq, Prod.mk.injEq] at H
        obtain ⟨rfl, rfl, rfl, rfl, rfl⟩ := H
       rotate_left
      rotate_left 2
     rotate_left 3
    rotate_left 4
   rotate_left 5
   focus
    rw [if_pos c14] at H
    have c14b0 : decide (0 < x6_1) = true := decide_eq_true c14
    clear c14
    replace H := Option.bind_eq_some_iff.mp H
    obtain ⟨⟨t240, t241⟩, A150, H⟩ := H
    (try dsimp only at H)
    have A15 := mk_ A150
    clear A150
    replace H := Option.bind_eq_some_iff.mp H
    obtain ⟨⟨t242, t243⟩, A160, H⟩ := H
    (try dsimp only at H)
    have A16 := mk_ A160
    clear A160
    replace H := Option.bind_eq_some_iff.mp H
    obtain ⟨t244, A170, H⟩ := H
    (try dsimp only at H)
    have A17 := mk_ A170
    clear A170
    replace H := Option.bind_eq_some_iff.mp H
    obtain ⟨⟨t247, t248, t249, t252⟩, A180, H⟩ := H
    (try dsimp only at H)
    have A18 := mk_ A180
    clear A180
    replace H := Option.bind_eq_some_iff.mp H
    obtain ⟨⟨t255, t256⟩, A190, H⟩ := H
    (try dsimp only at H)
    have A19 := mk_ A190
    clear A190
    by_cases c20 : t255 = 0
    rotate_left
    focus
     rw [if_neg c20] at H
     have c20b0 : (t255 == 0) = false := beq_eq_false_iff_ne.mpr c20
     have c20b1 : (t255 != 0) = true := bne_iff_ne.mpr c20
     have H' := mk_ H
     clear H
    rotate_left
    focus
     rw [if_pos c20] at H
     have c20b0 : (t255 == 0) = true := beq_iff_eq.mpr c20
     have c20b1 : (t255 != 0) = false := bne_eq_false_iff_eq.mpr c20
     clear c20
     replace H := Option.bind_eq_some_iff.mp H
     obtain ⟨⟨t257, t258⟩, A210, H⟩ := H
     (try dsimp only at H)
     have A21 := mk_ A210
     clear A210
     replace H := Option.bind_eq_some_iff.mp H
     obtain ⟨⟨t259, t260, t261, t264, t267⟩, A220, H⟩ := H
     replace H : (spec_l20Ear.l0 k1 a1 (wrap64 (x6_1 - 1)) s0_0 t258 t259 t260 t261 t264) = some (r1, r2, r3, r4, r5) := H
     have A22 := mk_ A220
     clear A220
     have H' := mk_ H
     clear H
    rotate_left
   rotate_left 2
   all_goals
    try go_wp2_with (first | ((with_reducible refine gate_callee (f := 90) rfl ?_); refine goesL_ (some 47) rfl rfl Try.func90 (by kernel_rfl) rfl #[.pointer (some ⟨g, 0, none⟩), .int .i64 a1] rfl (by (try simp only [lm_, lo_, ln_]); try rfl) ?_; (with_reducible refine (spec_l20Rd_odd.calls k1 g s0_0 x1001_1 a1 false t271 w0 _ ?side1 ?side2 A64.out).mono ?_); (case side1 => repeat (first | (with_reducible first | exact HI0.out | apply IsS107.alloc | apply IsS107.drewN | apply IsS107.drew | apply IsS107.set_1 | refine IsS107.far ?_ NB0_232.out _ | refine IsS107.far ?_ NB0_237.out _) | exact HI0.out)); (case side2 => repeat (first | (with_reducible first | exact HB.out | apply na_ | apply nn_ | apply nw_ | refine bs_ ?_ (IsS107.ge HI0.out) | refine bs_ ?_ GE232.out | refine bs_ ?_ GE237.out) | exact HB.out)); rintro e w23720 ⟨rfl, hi, hb, hk⟩; refine ⟨_, rfl, ?_⟩; replace HO_238002 := mk_ (Kd.R_mono (Kd.R_keep (IsS107.apart (show IsS107 w0 _ g s0_0 x1001_1 from by repeat (first | (with_reducible first | exact HI0.out | apply IsS107.alloc | apply IsS107.drewN | apply IsS107.drew | apply IsS107.set_1 | refine IsS107.far ?_ NB0_232.out _ | refine IsS107.far ?_ NB0_237.out _) | exact HI0.out)) (Kd.ur_ HO_238002.out) (by decide)) hk (fun _ h => h.2)) (fun _ h => h.1)); replace HO_238003 := mk_ (Kd.Q_mono (Kd.Q_keep (IsS107.apartQ (show IsS107 w0 _ g s0_0 x1001_1 from by repeat (first | (with_reducible first | exact HI0.out | apply IsS107.alloc | apply IsS107.drewN | apply IsS107.drew | apply IsS107.set_1 | refine IsS107.far ?_ NB0_232.out _ | refine IsS107.far ?_ NB0_237.out _) | exact HI0.out)) (by (with_reducible repeat (first | apply Kd.Q_alloc | apply Kd.Q_drewN | apply Kd.Q_drew)); exact HO_238003.out) (by decide)) hk (fun _ h => h.2)) (fun _ h => h.1)); replace BK232 := mk_ (KeepBut.blk hk (g' := gb232) (o := .cells #[.int .i64 0, .int .i64 0, .slice none 0 0, .slice none 0 0] 59 (0, 0)) (u_ BK232.out) NB232_0.out (by simp)); replace BK237 := mk_ (KeepBut.blk hk (g' := gb237) (o := .cells #[.int .i64 x238000_1, .int .i64 x238001_1, u238002, u238003] 59 (0, 0)) (u_ BK237.out) NB237_0.out (by simp)); replace HK := mk_ (KeepBut.trans (by repeat (first | (with_reducible first | exact HK.out | apply KeepBut.set_ | apply keep_drewN | apply keep_drew | apply keep_alloc | refine keep_far ?_ GW232.out _ | refine keep_far ?_ GW237.out _) | exact HK.out)) hk (.inl rfl)); replace HB := mk_ (hb); replace HI0 := mk_ (hi); have hnb5680232237 := NB237_232.out; have hnc5680232237 := NB232_237.out; have hnb56800237 := NB237_0.out; have hnc56800237 := NB0_237.out; obtain ⟨_, _, _, _, _, _, _, _⟩ := cells4_ BK237.out; have hnb56800232 := NB232_0.out; have hnc56800232 := NB0_232.out; obtain ⟨_, _, _, _, _, _, _, _⟩ := cells4_ BK232.out; obtain ⟨Ao23721, co23721, eo23721⟩ := Kd.R_slice HO_238002.out; subst eo23721; obtain ⟨Ao23722, co23722, eo23722, _⟩ := Kd.Q_slice HO_238003.out; subst eo23722) | ((with_reducible refine gate_callee (f := 90) rfl ?_); refine goesL_ (some 47) rfl rfl Try.func90 (by kernel_rfl) rfl #[.pointer (some ⟨g, 0, none⟩), .int .i64 a1] rfl (by (try simp only [lm_, lo_, ln_]); try rfl) ?_; (with_reducible refine (spec_l20Rd_odd.calls k1 g s0_0 x1001_1 a1 true t271 w0 _ ?side1 ?side2 A64.out).mono ?_); (case side1 => repeat (first | (with_reducible first | exact HI0.out | apply IsS107.alloc | apply IsS107.drewN | apply IsS107.drew | apply IsS107.set_1 | refine IsS107.far ?_ NB0_232.out _ | refine IsS107.far ?_ NB0_237.out _) | exact HI0.out)); (case side2 => repeat (first | (with_reducible first | exact HB.out | apply na_ | apply nn_ | apply nw_ | refine bs_ ?_ (IsS107.ge HI0.out) | refine bs_ ?_ GE232.out | refine bs_ ?_ GE237.out) | exact HB.out)); rintro e w23720 ⟨rfl, hi, hb, hk⟩; refine ⟨_, rfl, ?_⟩; replace HO_238002 := mk_ (Kd.R_mono (Kd.R_keep (IsS107.apart (show IsS107 w0 _ g s0_0 x1001_1 from by repeat (first | (with_reducible first | exact HI0.out | apply IsS107.alloc | apply IsS107.drewN | apply IsS107.drew | apply IsS107.set_1 | refine IsS107.far ?_ NB0_232.out _ | refine IsS107.far ?_ NB0_237.out _) | exact HI0.out)) (Kd.ur_ HO_238002.out) (by decide)) hk (fun _ h => h.2)) (fun _ h => h.1)); replace HO_238003 := mk_ (Kd.Q_mono (Kd.Q_keep (IsS107.apartQ (show IsS107 w0 _ g s0_0 x1001_1 from by repeat (first | (with_reducible first | exact HI0.out | apply IsS107.alloc | apply IsS107.drewN | apply IsS107.drew | apply IsS107.set_1 | refine IsS107.far ?_ NB0_232.out _ | refine IsS107.far ?_ NB0_237.out _) | exact HI0.out)) (by (with_reducible repeat (first | apply Kd.Q_alloc | apply Kd.Q_drewN | apply Kd.Q_drew)); exact HO_238003.out) (by decide)) hk (fun _ h => h.2)) (fun _ h => h.1)); replace BK232 := mk_ (KeepBut.blk hk (g' := gb232) (o := .cells #[.int .i64 0, .int .i64 0, .slice none 0 0, .slice none 0 0] 59 (0, 0)) (u_ BK232.out) NB232_0.out (by simp)); replace BK237 := mk_ (KeepBut.blk hk (g' := gb237) (o := .cells #[.int .i64 x238000_1, .int .i64 x238001_1, u238002, u238003] 59 (0, 0)) (u_ BK237.out) NB237_0.out (by simp)); replace HK := mk_ (KeepBut.trans (by repeat (first | (with_reducible first | exact HK.out | apply KeepBut.set_ | apply keep_drewN | apply keep_drew | apply keep_alloc | refine keep_far ?_ GW232.out _ | refine keep_far ?_ GW237.out _) | exact HK.out)) hk (.inl rfl)); replace HB := mk_ (hb); replace HI0 := mk_ (hi)) | ((with_reducible refine gate_callee (f := 46) rfl ?_); have hz_ : (t272 == 1) = true := c79b0; clear hz_; refine goesL_ (some 49) rfl rfl Try.func46 (by kernel_rfl) rfl #[.pointer (some ⟨g, 0, none⟩), .int .i64 4] rfl (by (try simp only [lm_, lo_, ln_]); try rfl) ?_; (with_reducible refine (spec_l20Rd_pick.calls k1 g s0_0 t271 4 t272 t273 w0 _ ?side1 ?side2 A66.out).mono ?_); (case side1 => repeat (first | (with_reducible first | exact HI0.out | apply IsS107.alloc | apply IsS107.drewN | apply IsS107.drew | apply IsS107.set_1 | refine IsS107.far ?_ NB0_232.out _ | refine IsS107.far ?_ NB0_237.out _) | exact HI0.out)); (case side2 => repeat (first | (with_reducible first | exact HB.out | apply na_ | apply nn_ | apply nw_ | refine bs_ ?_ (IsS107.ge HI0.out) | refine bs_ ?_ GE232.out | refine bs_ ?_ GE237.out) | exact HB.out)); rintro e w23760 ⟨rfl, hi, hb, hk⟩; refine ⟨_, rfl, ?_⟩; replace HO_238002 := mk_ (Kd.R_mono (Kd.R_keep (IsS107.apart (show IsS107 w0 _ g s0_0 t271 from by repeat (first | (with_reducible first | exact HI0.out | apply IsS107.alloc | apply IsS107.drewN | apply IsS107.drew | apply IsS107.set_1 | refine IsS107.far ?_ NB0_232.out _ | refine IsS107.far ?_ NB0_237.out _) | exact HI0.out)) (Kd.ur_ HO_238002.out) (by decide)) hk (fun _ h => h.2)) (fun _ h => h.1)); replace HO_238003 := mk_ (Kd.Q_mono (Kd.Q_keep (IsS107.apartQ (show IsS107 w0 _ g s0_0 t271 from by repeat (first | (with_reducible first | exact HI0.out | apply IsS107.alloc | apply IsS107.drewN | apply IsS107.drew | apply IsS107.set_1 | refine IsS107.far ?_ NB0_232.out _ | refine IsS107.far ?_ NB0_237.out _) | exact HI0.out)) (by (with_reducible repeat (first | apply Kd.Q_alloc | apply Kd.Q_drewN | apply Kd.Q_drew)); exact HO_238003.out) (by decide)) hk (fun _ h => h.2)) (fun _ h => h.1)); replace BK232 := mk_ (KeepBut.blk hk (g' := gb232) (o := .cells #[.int .i64 0, .int .i64 0, .slice none 0 0, .slice none 0 0] 59 (0, 0)) (u_ BK232.out) NB232_0.out (by simp)); replace BK237 := mk_ (KeepBut.blk hk (g' := gb237) (o := .cells #[.int .i64 x238000_1, .int .i64 x238001_1, u238002, u238003] 59 (0, 0)) (u_ BK237.out) NB237_0.out (by simp)); replace HK := mk_ (KeepBut.trans (by repeat (first | (with_reducible first | exact HK.out | apply KeepBut.set_ | apply keep_drewN | apply keep_drew | apply keep_alloc | refine keep_far ?_ GW232.out _ | refine keep_far ?_ GW237.out _) | exact HK.out)) hk (.inl rfl)); replace HB := mk_ (hb); replace HI0 := mk_ (hi); have hnb5690232237 := NB237_232.out; have hnc5690232237 := NB232_237.out; have hnb56900237 := NB237_0.out; have hnc56900237 := NB0_237.out; obtain ⟨_, _, _, _, _, _, _, _⟩ := cells4_ BK237.out; have hnb56900232 := NB232_0.out; have hnc56900232 := NB0_232.out; obtain ⟨_, _, _, _, _, _, _, _⟩ := cells4_ BK232.out; obtain ⟨Ao23761, co23761, eo23761⟩ := Kd.R_slice HO_238002.out; subst eo23761; obtain ⟨Ao23762, co23762, eo23762, _⟩ := Kd.Q_slice HO_238003.out; subst eo23762) | ((with_reducible refine gate_callee (f := 46) rfl ?_); have hA_ := A66.out; refine goesL_ (some 49) rfl rfl Try.func46 (by kernel_rfl) rfl #[.pointer (some ⟨g, 0, none⟩), .int .i64 4] rfl (by (try simp only [lm_, lo_, ln_]); try rfl) ?_; (with_reducible refine (spec_l20Rd_pick.calls k1 g s0_0 t271 4 t272 t273 w0 _ ?side1 ?side2 A66.out).mono ?_); (case side1 => repeat (first | (with_reducible first | exact HI0.out | apply IsS107.alloc | apply IsS107.drewN | apply IsS107.drew | apply IsS107.set_1 | refine IsS107.far ?_ NB0_232.out _ | refine IsS107.far ?_ NB0_237.out _) | exact HI0.out)); (case side2 => repeat (first | (with_reducible first | exact HB.out | apply na_ | apply nn_ | apply nw_ | refine bs_ ?_ (IsS107.ge HI0.out) | refine bs_ ?_ GE232.out | refine bs_ ?_ GE237.out) | exact HB.out)); rintro e w23760 ⟨rfl, hi, hb, hk⟩; refine ⟨_, rfl, ?_⟩; replace HO_238002 := mk_ (Kd.R_mono (Kd.R_keep (IsS107.apart (show IsS107 w0 _ g s0_0 t271 from by repeat (first | (with_reducible first | exact HI0.out | apply IsS107.alloc | apply IsS107.drewN | apply IsS107.drew | apply IsS107.set_1 | refine IsS107.far ?_ NB0_232.out _ | refine IsS107.far ?_ NB0_237.out _) | exact HI0.out)) (Kd.ur_ HO_238002.out) (by decide)) hk (fun _ h => h.2)) (fun _ h => h.1)); replace HO_238003 := mk_ (Kd.Q_mono (Kd.Q_keep (IsS107.apartQ (show IsS107 w0 _ g s0_0 t271 from by repeat (first | (with_reducible first | exact HI0.out | apply IsS107.alloc | apply IsS107.drewN | apply IsS107.drew | apply IsS107.set_1 | refine IsS107.far ?_ NB0_232.out _ | refine IsS107.far ?_ NB0_237.out _) | exact HI0.out)) (by (with_reducible repeat (first | apply Kd.Q_alloc | apply Kd.Q_drewN | apply Kd.Q_drew)); exact HO_238003.out) (by decide)) hk (fun _ h => h.2)) (fun _ h => h.1)); replace BK232 := mk_ (KeepBut.blk hk (g' := gb232) (o := .cells #[.int .i64 0, .int .i64 0, .slice none 0 0, .slice none 0 0] 59 (0, 0)) (u_ BK232.out) NB232_0.out (by simp)); replace BK237 := mk_ (KeepBut.blk hk (g' := gb237) (o := .cells #[.int .i64 x238000_1, .int .i64 x238001_1, u238002, u238003] 59 (0, 0)) (u_ BK237.out) NB237_0.out (by simp)); replace HK := mk_ (KeepBut.trans (by repeat (first | (with_reducible first | exact HK.out | apply KeepBut.set_ | apply keep_drewN | apply keep_drew | apply keep_alloc | refine keep_far ?_ GW232.out _ | refine keep_far ?_ GW237.out _) | exact HK.out)) hk (.inl rfl)); replace HB := mk_ (hb); replace HI0 := mk_ (hi); clear hA_ A66; have hnb5690232237 := NB237_232.out; have hnc5690232237 := NB232_237.out; have hnb56900237 := NB237_0.out; have hnc56900237 := NB0_237.out; obtain ⟨_, _, _, _, _, _, _, _⟩ := cells4_ BK237.out) | ((with_reducible refine gate_callee (f := 46) rfl ?_); have hA_ := A68.out; refine goesL_ (some 57) rfl rfl Try.func46 (by kernel_rfl) rfl #[.pointer (some ⟨g, 0, none⟩), .int .i64 2] rfl (by (try simp only [lm_, lo_, ln_]); try rfl) ?_; (with_reducible refine (spec_l20Rd_pick.calls k1 g s0_0 t273 2 t274 t275 w0 _ ?side1 ?side2 A68.out).mono ?_); (case side1 => repeat (first | (with_reducible first | exact HI0.out | apply IsS107.alloc | apply IsS107.drewN | apply IsS107.drew | apply IsS107.set_1 | refine IsS107.far ?_ NB0_232.out _ | refine IsS107.far ?_ NB0_237.out _) | exact HI0.out)); (case side2 => repeat (first | (with_reducible first | exact HB.out | apply na_ | apply nn_ | apply nw_ | refine bs_ ?_ (IsS107.ge HI0.out) | refine bs_ ?_ GE232.out | refine bs_ ?_ GE237.out) | exact HB.out)); rintro e w23800 ⟨rfl, hi, hb, hk⟩; refine ⟨_, rfl, ?_⟩; replace HO_238002 := mk_ (Kd.R_mono (Kd.R_keep (IsS107.apart (show IsS107 w0 _ g s0_0 t273 from by repeat (first | (with_reducible first | exact HI0.out | apply IsS107.alloc | apply IsS107.drewN | apply IsS107.drew | apply IsS107.set_1 | refine IsS107.far ?_ NB0_232.out _ | refine IsS107.far ?_ NB0_237.out _) | exact HI0.out)) (Kd.ur_ HO_238002.out) (by decide)) hk (fun _ h => h.2)) (fun _ h => h.1)); replace HO_238003 := mk_ (Kd.Q_mono (Kd.Q_keep (IsS107.apartQ (show IsS107 w0 _ g s0_0 t273 from by repeat (first | (with_reducible first | exact HI0.out | apply IsS107.alloc | apply IsS107.drewN | apply IsS107.drew | apply IsS107.set_1 | refine IsS107.far ?_ NB0_232.out _ | refine IsS107.far ?_ NB0_237.out _) | exact HI0.out)) (by (with_reducible repeat (first | apply Kd.Q_alloc | apply Kd.Q_drewN | apply Kd.Q_drew)); exact HO_238003.out) (by decide)) hk (fun _ h => h.2)) (fun _ h => h.1)); replace BK232 := mk_ (KeepBut.blk hk (g' := gb232) (o := .cells #[.int .i64 0, .int .i64 0, .slice none 0 0, .slice none 0 0] 59 (0, 0)) (u_ BK232.out) NB232_0.out (by simp)); replace BK237 := mk_ (KeepBut.blk hk (g' := gb237) (o := .cells #[.int .i64 x238000_1, .int .i64 x238001_1, u238002, u238003] 59 (0, 0)) (u_ BK237.out) NB237_0.out (by simp)); replace HK := mk_ (KeepBut.trans (by repeat (first | (with_reducible first | exact HK.out | apply KeepBut.set_ | apply keep_drewN | apply keep_drew | apply keep_alloc | refine keep_far ?_ GW232.out _ | refine keep_far ?_ GW237.out _) | exact HK.out)) hk (.inl rfl)); replace HB := mk_ (hb); replace HI0 := mk_ (hi); have hnb5700232237 := NB237_232.out; have hnc5700232237 := NB232_237.out; have hnb57000237 := NB237_0.out; have hnc57000237 := NB0_237.out; obtain ⟨_, _, _, _, _, _, _, _⟩ := cells4_ BK237.out; have hnb57000232 := NB232_0.out; have hnc57000232 := NB0_232.out; obtain ⟨_, _, _, _, _, _, _, _⟩ := cells4_ BK232.out; obtain ⟨Ao23801, co23801, eo23801⟩ := Kd.R_slice HO_238002.out; subst eo23801; obtain ⟨Ao23802, co23802, eo23802, _⟩ := Kd.Q_slice HO_238003.out; subst eo23802; clear hA_ A68) | (at_builtin; refine Kd.R_append_zeros (Kd.int .u8) w.heap.size rfl (.tmp 51) (.const (.int .i64 20)) 22 3 5 (.int .u8 0) 1 rfl Try.underlying22 Try.underlying3 info5 rfl (by decide) (by omega) u238002 x238002_1 0 (20 : Int) (fun _ => True) rfl rfl rfl ?aF ?aO (by omega) (Below.refl _ _) ?aS ?aL ?_; (case aF => exact (fun _ _ => trivial)); (case aO => exact (Kd.ur_ HO_238002.out)); (case aS => exact (keep_size (w := w) (g := g) (row := none) (by repeat (first | (with_reducible first | exact HK.out | apply KeepBut.set_ | apply keep_drewN | apply keep_drew | apply keep_alloc | refine keep_far ?_ GW232.out _ | refine keep_far ?_ GW237.out _) | exact HK.out)))); (case aL => have := LMc105.out; omega); intro v23840 w23841 ho hb hg hat; rw [show Int.toNat 20 = 20 from rfl, ← Ny281.out] at ho; replace HO_238003 := mk_ (Kd.Q_over' (by (with_reducible repeat (first | apply Kd.Q_alloc | apply Kd.Q_drewN | apply Kd.Q_drew)); exact HO_238003.out) (Kd.R_typed (Kd.ur_ HO_238002.out)) (by decide) hg); replace BK232 := mk_ (blk_grown (g := gb232) (o := .cells #[.int .i64 0, .int .i64 0, .slice none 0 0, .slice none 0 0] 59 (0, 0)) (u_ BK232.out) hg (Kd.R_ne HO_238002.out BK232.out (by decide))); replace BK237 := mk_ (blk_grown (g := gb237) (o := .cells #[.int .i64 x238000_1, .int .i64 x238001_1, u238002, u238003] 59 (0, 0)) (u_ BK237.out) hg (Kd.R_ne HO_238002.out BK237.out (by decide))); have n3_ := mk_ (IsS107.grown (by repeat (first | (with_reducible first | exact HI0.out | apply IsS107.alloc | apply IsS107.drewN | apply IsS107.drew | apply IsS107.set_1 | refine IsS107.far ?_ NB0_232.out _ | refine IsS107.far ?_ NB0_237.out _) | exact HI0.out)) hg (IsS107.own_ne HI0.out HO_238002.out (by decide))); replace HB := mk_ (below_weaken (by repeat (first | (with_reducible first | exact HB.out | apply na_ | apply nn_ | apply nw_ | refine bs_ ?_ (IsS107.ge HI0.out) | refine bs_ ?_ GE232.out | refine bs_ ?_ GE237.out) | exact HB.out)) HL.out hb); replace HK := mk_ (KeepBut.trans (by repeat (first | (with_reducible first | exact HK.out | apply KeepBut.set_ | apply keep_drewN | apply keep_drew | apply keep_alloc | refine keep_far ?_ GW232.out _ | refine keep_far ?_ GW237.out _) | exact HK.out)) (KeepBut.of_grown hg g) (Kd.R_base2 HO_238002.out)); have HO283 := mk_ (ho); replace HI0 := n3_; clear n3_; clear HO_238002; clear ho hb hg hat; obtain ⟨Ao5710283, co5710283, eo5710283⟩ := Kd.R_slice HO283.out; subst eo5710283; obtain ⟨_, _, _, _, _, _, _, _⟩ := cells4_ BK237.out; have hnb57100232 := NB232_0.out; have hnc57100232 := NB0_232.out; obtain ⟨_, _, _, _, _, _, _, _⟩ := cells4_ BK232.out; obtain ⟨Ao23842, co23842, eo23842, _⟩ := Kd.Q_slice HO_238003.out; subst eo23842))
   ·refine bodyPost_ret (results_cell_row rfl _ _ gb232 59 #[.int .i64 x238000_1, .int .i64 x238001_1, .slice Ao23721 x238002_1.length co23721, .slice Ao23722 x238003_1.length co23722] (0, 0) _ rfl (by (with_reducible repeat (first | refine bn_ ?_ _ | refine bw_ ?_ | refine ba_ ?_ _)); refine blk_put (cs := #[.int .i64 x238000_1, .int .i64 x238001_1, .slice Ao23721 x238002_1.length co23721, .slice none 0 0]) ?_ 3 _ rfl; (with_reducible repeat (first | refine bn_ ?_ _ | refine bw_ ?_ | refine ba_ ?_ _)); refine blk_put (cs := #[.int .i64 x238000_1, .int .i64 x238001_1, .slice none 0 0, .slice none 0 0]) ?_ 2 _ rfl; (with_reducible repeat (first | refine bn_ ?_ _ | refine bw_ ?_ | refine ba_ ?_ _)); refine blk_put (cs := #[.int .i64 x238000_1, .int .i64 0, .slice none 0 0, .slice none 0 0]) ?_ 1 _ rfl; (with_reducible repeat (first | refine bn_ ?_ _ | refine bw_ ?_ | refine ba_ ?_ _)); refine blk_put (cs := #[.int .i64 0, .int .i64 0, .slice none 0 0, .slice none 0 0]) ?_ 0 _ rfl; (with_reducible repeat (first | refine bn_ ?_ _ | refine bw_ ?_ | refine ba_ ?_ _)); exact BK232.out) Try.underlying59 rfl (by kernel_rfl)) rfl ?_
    exact ⟨_, _, by first | rfl | (simp [errW_none, errW_some] <;> rfl) | (simp [*, errW_none, errW_some] <;> rfl), by (with_reducible repeat (first | apply Kd.R_alloc | apply Kd.R_drewN | apply Kd.R_drew)); exact Kd.R_mono (Kd.R_far (p := ⟨gb232, 3, none⟩) (Kd.R_far (p := ⟨gb232, 2, none⟩) (Kd.R_far (p := ⟨gb232, 1, none⟩) (Kd.R_far (p := ⟨gb232, 0, none⟩) (Kd.R_types HO_238002.out BK232.out (by decide)) (fun _ hk => hk.2) (.int .i64 x238000_1)) (fun _ hk => hk.2) (.int .i64 x238001_1)) (fun _ hk => hk.2) (.slice Ao23721 x238002_1.length co23721)) (fun _ hk => hk.2) (.slice Ao23722 x238003_1.length co23722)) (fun _ hk => trivial), by (with_reducible repeat (first | apply Kd.Q_alloc | apply Kd.Q_drewN | apply Kd.Q_drew)); exact Kd.Q_mono (Kd.Q_far (p := ⟨gb232, 3, none⟩) (Kd.Q_far (p := ⟨gb232, 2, none⟩) (Kd.Q_far (p := ⟨gb232, 1, none⟩) (Kd.Q_far (p := ⟨gb232, 0, none⟩) (Kd.Q_types HO_238003.out BK232.out (by decide)) (fun _ hk => hk.2) (.int .i64 x238000_1)) (fun _ hk => hk.2) (.int .i64 x238001_1)) (fun _ hk => hk.2) (.slice Ao23721 x238002_1.length co23721)) (fun _ hk => hk.2) (.slice Ao23722 x238003_1.length co23722)) (fun _ hk => trivial), by repeat (first | (with_reducible first | exact HI0.out | apply IsS107.alloc | apply IsS107.drewN | apply IsS107.drew | apply IsS107.set_1 | refine IsS107.far ?_ NB0_232.out _ | refine IsS107.far ?_ NB0_237.out _) | exact HI0.out), by repeat (first | (with_reducible first | exact HB.out | apply na_ | apply nn_ | apply nw_ | refine bs_ ?_ (IsS107.ge HI0.out) | refine bs_ ?_ GE232.out | refine bs_ ?_ GE237.out) | exact HB.out), by repeat (first | (with_reducible first | exact HK.out | apply KeepBut.set_ | apply keep_drewN | apply keep_drew | apply keep_alloc | refine keep_far ?_ GW232.out _ | refine keep_far ?_ GW237.out _) | exact HK.out)⟩
   ·refine bodyPost_ret (results_cell_row rfl _ _ gb232 59 #[.int .i64 x238000_1, .int .i64 (wrap64 (t274 * 33)), .slice Ao23801 x238002_1.length co23801, .slice Ao23802 x238003_1.length co23802] (0, 0) _ rfl (by (with_reducible repeat (first | refine bn_ ?_ _ | refine bw_ ?_ | refine ba_ ?_ _)); refine blk_put (cs := #[.int .i64 x238000_1, .int .i64 (wrap64 (t274 * 33)), .slice Ao23801 x238002_1.length co23801, .slice none 0 0]) ?_ 3 _ rfl; (with_reducible repeat (first | refine bn_ ?_ _ | refine bw_ ?_ | refine ba_ ?_ _)); refine blk_put (cs := #[.int .i64 x238000_1, .int .i64 (wrap64 (t274 * 33)), .slice none 0 0, .slice none 0 0]) ?_ 2 _ rfl; (with_reducible repeat (first | refine bn_ ?_ _ | refine bw_ ?_ | refine ba_ ?_ _)); refine blk_put (cs := #[.int .i64 x238000_1, .int .i64 0, .slice none 0 0, .slice none 0 0]) ?_ 1 _ rfl; (with_reducible repeat (first | refine bn_ ?_ _ | refine bw_ ?_ | refine ba_ ?_ _)); refine blk_put (cs := #[.int .i64 0, .int .i64 0, .slice none 0 0, .slice none 0 0]) ?_ 0 _ rfl; (with_reducible repeat (first | refine bn_ ?_ _ | refine bw_ ?_ | refine ba_ ?_ _)); refine blk_far ?_ NB232_237.out _; (with_reducible repeat (first | refine bn_ ?_ _ | refine bw_ ?_ | refine ba_ ?_ _)); exact BK232.out) Try.underlying59 rfl (by kernel_rfl)) rfl ?_
    exact ⟨_, _, by first | rfl | (simp [errW_none, errW_some] <;> rfl) | (simp [*, errW_none, errW_some] <;> rfl), by (with_reducible repeat (first | apply Kd.R_alloc | apply Kd.R_drewN | apply Kd.R_drew)); exact Kd.R_mono (Kd.R_far (p := ⟨gb232, 3, none⟩) (Kd.R_far (p := ⟨gb232, 2, none⟩) (Kd.R_far (p := ⟨gb232, 1, none⟩) (Kd.R_far (p := ⟨gb232, 0, none⟩) (Kd.R_far (p := ⟨gb237, 1, none⟩) (Kd.R_types (Kd.R_types HO_238002.out BK237.out (by decide)) BK232.out (by decide)) (fun _ hk => hk.1.2) (.int .i64 (wrap64 (t274 * 33)))) (fun _ hk => hk.2) (.int .i64 x238000_1)) (fun _ hk => hk.2) (.int .i64 (wrap64 (t274 * 33)))) (fun _ hk => hk.2) (.slice Ao23801 x238002_1.length co23801)) (fun _ hk => hk.2) (.slice Ao23802 x238003_1.length co23802)) (fun _ hk => trivial), by (with_reducible repeat (first | apply Kd.Q_alloc | apply Kd.Q_drewN | apply Kd.Q_drew)); exact Kd.Q_mono (Kd.Q_far (p := ⟨gb232, 3, none⟩) (Kd.Q_far (p := ⟨gb232, 2, none⟩) (Kd.Q_far (p := ⟨gb232, 1, none⟩) (Kd.Q_far (p := ⟨gb232, 0, none⟩) (Kd.Q_far (p := ⟨gb237, 1, none⟩) (Kd.Q_types (Kd.Q_types HO_238003.out BK237.out (by decide)) BK232.out (by decide)) (fun _ hk => hk.1.2) (.int .i64 (wrap64 (t274 * 33)))) (fun _ hk => hk.2) (.int .i64 x238000_1)) (fun _ hk => hk.2) (.int .i64 (wrap64 (t274 * 33)))) (fun _ hk => hk.2) (.slice Ao23801 x238002_1.length co23801)) (fun _ hk => hk.2) (.slice Ao23802 x238003_1.length co23802)) (fun _ hk => trivial), by repeat (first | (with_reducible first | exact HI0.out | apply IsS107.alloc | apply IsS107.drewN | apply IsS107.drew | apply IsS107.set_1 | refine IsS107.far ?_ NB0_232.out _ | refine IsS107.far ?_ NB0_237.out _) | exact HI0.out), by repeat (first | (with_reducible first | exact HB.out | apply na_ | apply nn_ | apply nw_ | refine bs_ ?_ (IsS107.ge HI0.out) | refine bs_ ?_ GE232.out | refine bs_ ?_ GE237.out) | exact HB.out), by repeat (first | (with_reducible first | exact HK.out | apply KeepBut.set_ | apply keep_drewN | apply keep_drew | apply keep_alloc | refine keep_far ?_ GW232.out _ | refine keep_far ?_ GW237.out _) | exact HK.out)⟩
   ·refine bodyPost_ret (results_cell_row rfl _ _ gb232 59 #[.int .i64 (-1), .int .i64 x238001_1, .slice Ao23761 x238002_1.length co23761, .slice Ao23762 x238003_1.length co23762] (0, 0) _ rfl (by (with_reducible repeat (first | refine bn_ ?_ _ | refine bw_ ?_ | refine ba_ ?_ _)); refine blk_put (cs := #[.int .i64 (-1), .int .i64 x238001_1, .slice Ao23761 x238002_1.length co23761, .slice none 0 0]) ?_ 3 _ rfl; (with_reducible repeat (first | refine bn_ ?_ _ | refine bw_ ?_ | refine ba_ ?_ _)); refine blk_put (cs := #[.int .i64 (-1), .int .i64 x238001_1, .slice none 0 0, .slice none 0 0]) ?_ 2 _ rfl; (with_reducible repeat (first | refine bn_ ?_ _ | refine bw_ ?_ | refine ba_ ?_ _)); refine blk_put (cs := #[.int .i64 (-1), .int .i64 0, .slice none 0 0, .slice none 0 0]) ?_ 1 _ rfl; (with_reducible repeat (first | refine bn_ ?_ _ | refine bw_ ?_ | refine ba_ ?_ _)); refine blk_put (cs := #[.int .i64 0, .int .i64 0, .slice none 0 0, .slice none 0 0]) ?_ 0 _ rfl; (with_reducible repeat (first | refine bn_ ?_ _ | refine bw_ ?_ | refine ba_ ?_ _)); refine blk_far ?_ NB232_237.out _; (with_reducible repeat (first | refine bn_ ?_ _ | refine bw_ ?_ | refine ba_ ?_ _)); exact BK232.out) Try.underlying59 rfl (by kernel_rfl)) rfl ?_
    exact ⟨_, _, by first | rfl | (simp [errW_none, errW_some] <;> rfl) | (simp [*, errW_none, errW_some] <;> rfl), by (with_reducible repeat (first | apply Kd.R_alloc | apply Kd.R_drewN | apply Kd.R_drew)); exact Kd.R_mono (Kd.R_far (p := ⟨gb232, 3, none⟩) (Kd.R_far (p := ⟨gb232, 2, none⟩) (Kd.R_far (p := ⟨gb232, 1, none⟩) (Kd.R_far (p := ⟨gb232, 0, none⟩) (Kd.R_far (p := ⟨gb237, 0, none⟩) (Kd.R_types (Kd.R_types HO_238002.out BK237.out (by decide)) BK232.out (by decide)) (fun _ hk => hk.1.2) (.int .i64 (-1))) (fun _ hk => hk.2) (.int .i64 (-1))) (fun _ hk => hk.2) (.int .i64 x238001_1)) (fun _ hk => hk.2) (.slice Ao23761 x238002_1.length co23761)) (fun _ hk => hk.2) (.slice Ao23762 x238003_1.length co23762)) (fun _ hk => trivial), by (with_reducible repeat (first | apply Kd.Q_alloc | apply Kd.Q_drewN | apply Kd.Q_drew)); exact Kd.Q_mono (Kd.Q_far (p := ⟨gb232, 3, none⟩) (Kd.Q_far (p := ⟨gb232, 2, none⟩) (Kd.Q_far (p := ⟨gb232, 1, none⟩) (Kd.Q_far (p := ⟨gb232, 0, none⟩) (Kd.Q_far (p := ⟨gb237, 0, none⟩) (Kd.Q_types (Kd.Q_types HO_238003.out BK237.out (by decide)) BK232.out (by decide)) (fun _ hk => hk.1.2) (.int .i64 (-1))) (fun _ hk => hk.2) (.int .i64 (-1))) (fun _ hk => hk.2) (.int .i64 x238001_1)) (fun _ hk => hk.2) (.slice Ao23761 x238002_1.length co23761)) (fun _ hk => hk.2) (.slice Ao23762 x238003_1.length co23762)) (fun _ hk => trivial), by repeat (first | (with_reducible first | exact HI0.out | apply IsS107.alloc | apply IsS107.drewN | apply IsS107.drew | apply IsS107.set_1 | refine IsS107.far ?_ NB0_232.out _ | refine IsS107.far ?_ NB0_237.out _) | exact HI0.out), by repeat (first | (with_reducible first | exact HB.out | apply na_ | apply nn_ | apply nw_ | refine bs_ ?_ (IsS107.ge HI0.out) | refine bs_ ?_ GE232.out | refine bs_ ?_ GE237.out) | exact HB.out), by repeat (first | (with_reducible first | exact HK.out | apply KeepBut.set_ | apply keep_drewN | apply keep_drew | apply keep_alloc | refine keep_far ?_ GW232.out _ | refine keep_far ?_ GW237.out _) | exact HK.out)⟩
   ·refine bodyPost_ret (results_cell_row rfl _ _ gb232 59 #[.int .i64 x238000_1, .int .i64 x238001_1, .slice Ao5710283 y281.length co5710283, .slice Ao23842 x238003_1.length co23842] (0, 0) _ rfl (by (with_reducible repeat (first | refine bn_ ?_ _ | refine bw_ ?_ | refine ba_ ?_ _)); refine blk_put (cs := #[.int .i64 x238000_1, .int .i64 x238001_1, .slice Ao5710283 y281.length co5710283, .slice none 0 0]) ?_ 3 _ rfl; (with_reducible repeat (first | refine bn_ ?_ _ | refine bw_ ?_ | refine ba_ ?_ _)); refine blk_put (cs := #[.int .i64 x238000_1, .int .i64 x238001_1, .slice none 0 0, .slice none 0 0]) ?_ 2 _ rfl; (with_reducible repeat (first | refine bn_ ?_ _ | refine bw_ ?_ | refine ba_ ?_ _)); refine blk_put (cs := #[.int .i64 x238000_1, .int .i64 0, .slice none 0 0, .slice none 0 0]) ?_ 1 _ rfl; (with_reducible repeat (first | refine bn_ ?_ _ | refine bw_ ?_ | refine ba_ ?_ _)); refine blk_put (cs := #[.int .i64 0, .int .i64 0, .slice none 0 0, .slice none 0 0]) ?_ 0 _ rfl; (with_reducible repeat (first | refine bn_ ?_ _ | refine bw_ ?_ | refine ba_ ?_ _)); refine blk_far ?_ NB232_237.out _; (with_reducible repeat (first | refine bn_ ?_ _ | refine bw_ ?_ | refine ba_ ?_ _)); exact BK232.out) Try.underlying59 rfl (by kernel_rfl)) rfl ?_
    exact ⟨_, _, by first | rfl | (simp [errW_none, errW_some] <;> rfl) | (simp [*, errW_none, errW_some] <;> rfl), by (with_reducible repeat (first | apply Kd.R_alloc | apply Kd.R_drewN | apply Kd.R_drew)); exact Kd.R_mono (Kd.R_far (p := ⟨gb232, 3, none⟩) (Kd.R_far (p := ⟨gb232, 2, none⟩) (Kd.R_far (p := ⟨gb232, 1, none⟩) (Kd.R_far (p := ⟨gb232, 0, none⟩) (Kd.R_far (p := ⟨gb237, 2, none⟩) (Kd.R_types (Kd.R_types HO283.out BK237.out (by decide)) BK232.out (by decide)) (fun _ hk => hk.1.2) (.slice Ao5710283 y281.length co5710283)) (fun _ hk => hk.2) (.int .i64 x238000_1)) (fun _ hk => hk.2) (.int .i64 x238001_1)) (fun _ hk => hk.2) (.slice Ao5710283 y281.length co5710283)) (fun _ hk => hk.2) (.slice Ao23842 x238003_1.length co23842)) (fun _ hk => trivial), by (with_reducible repeat (first | apply Kd.Q_alloc | apply Kd.Q_drewN | apply Kd.Q_drew)); exact Kd.Q_mono (Kd.Q_far (p := ⟨gb232, 3, none⟩) (Kd.Q_far (p := ⟨gb232, 2, none⟩) (Kd.Q_far (p := ⟨gb232, 1, none⟩) (Kd.Q_far (p := ⟨gb232, 0, none⟩) (Kd.Q_far (p := ⟨gb237, 2, none⟩) (Kd.Q_types (Kd.Q_types HO_238003.out BK237.out (by decide)) BK232.out (by decide)) (fun _ hk => hk.1.2) (.slice Ao5710283 y281.length co5710283)) (fun _ hk => hk.2) (.int .i64 x238000_1)) (fun _ hk => hk.2) (.int .i64 x238001_1)) (fun _ hk => hk.2) (.slice Ao5710283 y281.length co5710283)) (fun _ hk => hk.2) (.slice Ao23842 x238003_1.length co23842)) (fun _ hk => trivial), by repeat (first | (with_reducible first | exact HI0.out | apply IsS107.alloc | apply IsS107.drewN | apply IsS107.drew | apply IsS107.set_1 | refine IsS107.far ?_ NB0_232.out _ | refine IsS107.far ?_ NB0_237.out _) | exact HI0.out), by repeat (first | (with_reducible first | exact HB.out | apply na_ | apply nn_ | apply nw_ | refine bs_ ?_ (IsS107.ge HI0.out) | refine bs_ ?_ GE232.out | refine bs_ ?_ GE237.out) | exact HB.out), by repeat (first | (with_reducible first | exact HK.out | apply KeepBut.set_ | apply keep_drewN | apply keep_drew | apply keep_alloc | refine keep_far ?_ GW232.out _ | refine keep_far ?_ GW237.out _) | exact HK.out)⟩
   all_goals
    have n0_ := mk_ (Kd.R_drew HO_238002.out)
    have n1_ := mk_ (Kd.Q_drew HO_238003.out)
    have n2_ := mk_ (blk_drew BK232.out)
    have n3_ := mk_ (blk_drew BK237.out)
    have n4_ := mk_ (IsS107.drew HI0.out)
    have n5_ := mk_ (keep_drew HK.out)
    have n6_ := mk_ (below_drew1 HB.out)
    clear HO_238002
    clear HO_238003
    clear BK232
    clear BK237
    clear HI0
    clear HK
    clear HB
    have HO_238002 := n0_
    have HO_238003 := n1_
    have BK232 := n2_
    have BK237 := n3_
    have HI0 := n4_
    have HK := n5_
    have HB := n6_
    clear n0_ n1_ n2_ n3_ n4_ n5_ n6_
   ·refine start_ (n := 13) (S := fun w' => w'.cell? ⟨gb237, 0, none⟩ = some (.int .i64 x238000_1) ∧ w'.cell? ⟨gb237, 1, none⟩ = some (.int .i64 x238001_1) ∧ w'.cell? ⟨gb237, 2, none⟩ = some (u238002) ∧ w'.cell? ⟨gb237, 3, none⟩ = some (u238003)) (ds := [12]) #[F_, F_, F_, F_, F_, F_, F_, F_, F_, F_, F_, F_, F_] (by kernel_rfl) rfl rfl ⟨(blk_cell BK237.out 0).trans rfl, (blk_cell BK237.out 1).trans rfl, (blk_cell BK237.out 2).trans rfl, (blk_cell BK237.out 3).trans rfl⟩ (fun hHeld => ?_); refine with_tabW spec_l20Ear.tab17 spec_l20Ear.bits17 (fun HT_ HW_ => ?_)
    generalize w23760.drew = w18000 at HO_238002 HO_238003 BK232 BK237 HI0 HK HB hHeld ⊢
    refine pure_ (i := 0) (N := some 65) (v := ?_) (a' := ?_) #[T_, F_, F_, F_, F_, F_, F_, F_, F_, F_, F_, F_, F_] rfl rfl (any_of HT_.out (by kernel_rfl)) (fun _ _ _ h => h) (Or.inl ⟨by rfl, ?_⟩) ?_ ?_
    rotate_left
    ·intro w'
     go_simp
     with_reducible rfl
    rotate_left
    ·simp only [Act.put, la_, lz_, ls_, i64_w, i32_w]
     rfl
    refine pure_ (i := 2) (N := some 67) (v := ?_) (a' := ?_) #[T_, F_, T_, F_, F_, F_, F_, F_, F_, F_, F_, F_, F_] rfl rfl (any_of HT_.out (by kernel_rfl)) (fun _ _ _ h => h) (Or.inl ⟨by rfl, ?_⟩) ?_ ?_
    rotate_left
    ·intro w'
     go_simp
     with_reducible rfl
    rotate_left
    ·simp only [Act.put, la_, lz_, ls_, i64_w, i32_w]
     rfl
    refine pure_ (i := 4) (N := some 69) (v := ?_) (a' := ?_) #[T_, F_, T_, F_, T_, F_, F_, F_, F_, F_, F_, F_, F_] rfl rfl (any_of HT_.out (by kernel_rfl)) (fun _ _ _ h => h) (Or.inl ⟨by rfl, ?_⟩) ?_ ?_
    rotate_left
    ·intro w'
     go_simp
     with_reducible rfl
    rotate_left
    ·simp only [Act.put, la_, lz_, ls_, i64_w, i32_w]
     rfl
    refine take_ (i := 1) (N := some 66) (v := ?_) (a' := ?_) #[T_, T_, T_, F_, T_, F_, F_, F_, F_, F_, F_, F_, F_] rfl rfl (take_ofW HT_.out HW_.out (by kernel_rfl)) (fun _ _ _ h => h) (Or.inl ⟨by rfl, ?_⟩) hHeld ?_ ?_
    rotate_left
    ·rintro w' ⟨s4880, s4881, s4882, s4883⟩
     go_simp
     with_reducible rfl
    rotate_left
    ·simp only [Act.put, la_, lz_, ls_, i64_w, i32_w]
     rfl
    refine take_ (i := 3) (N := some 68) (v := ?_) (a' := ?_) #[T_, T_, T_, T_, T_, F_, F_, F_, F_, F_, F_, F_, F_] rfl rfl (take_ofW HT_.out HW_.out (by kernel_rfl)) (fun _ _ _ h => h) (Or.inl ⟨by rfl, ?_⟩) hHeld ?_ ?_
    rotate_left
    ·rintro w' ⟨s4880, s4881, s4882, s4883⟩
     go_simp
     with_reducible rfl
    rotate_left
    ·simp only [Act.put, la_, lz_, ls_, i64_w, i32_w]
     rfl
    refine one_ (i := 5) (N := some 70) #[T_, T_, T_, T_, T_, T_, F_, F_, F_, F_, F_, F_, F_] rfl rfl (one_of HT_.out (by kernel_rfl)) (by decide) (fun K hK => ?_)
    refine goes_ Try.func46 (by kernel_rfl) rfl #[.pointer (some ⟨g, 0, none⟩), .int .i64 40] (by rfl) rfl rfl (by (try simp only [lm_, lo_, ln_]); try rfl) ?_
    with_reducible refine (spec_l20Rd_pick.calls k1 g s0_0 t273 40 t276 t277 w0 _ ?side1 ?side2 A90.out).mono ?_
    (case side1 => repeat (first | (with_reducible first | exact HI0.out | apply IsS107.alloc | apply IsS107.drewN | apply IsS107.drew | apply IsS107.set_1 | refine IsS107.far ?_ NB0_232.out _ | refine IsS107.far ?_ NB0_237.out _) | exact HI0.out))
    (case side2 => repeat (first | (with_reducible first | exact HB.out | apply na_ | apply nn_ | apply nw_ | refine bs_ ?_ (IsS107.ge HI0.out) | refine bs_ ?_ GE232.out | refine bs_ ?_ GE237.out) | exact HB.out))
    rintro e w24320 ⟨rfl, hi, hb, hk⟩
    refine ⟨_, rfl, ?_⟩
    have n0_ := mk_ (Kd.R_mono (Kd.R_keep (IsS107.apart (show IsS107 w0 _ g s0_0 t273 from by repeat (first | (with_reducible first | exact HI0.out | apply IsS107.alloc | apply IsS107.drewN | apply IsS107.drew | apply IsS107.set_1 | refine IsS107.far ?_ NB0_232.out _ | refine IsS107.far ?_ NB0_237.out _) | exact HI0.out)) (Kd.ur_ HO_238002.out) (by decide)) hk (fun _ h => h.2)) (fun _ h => h.1))
    have n1_ := mk_ (Kd.Q_mono (Kd.Q_keep (IsS107.apartQ (show IsS107 w0 _ g s0_0 t273 from by repeat (first | (with_reducible first | exact HI0.out | apply IsS107.alloc | apply IsS107.drewN | apply IsS107.drew | apply IsS107.set_1 | refine IsS107.far ?_ NB0_232.out _ | refine IsS107.far ?_ NB0_237.out _) | exact HI0.out)) (by (with_reducible repeat (first | apply Kd.Q_alloc | apply Kd.Q_drewN | apply Kd.Q_drew)); exact HO_238003.out) (by decide)) hk (fun _ h => h.2)) (fun _ h => h.1))
    have n2_ := mk_ (KeepBut.blk hk (g' := gb232) (o := .cells #[.int .i64 0, .int .i64 0, .slice none 0 0, .slice none 0 0] 59 (0, 0)) (u_ BK232.out) NB232_0.out (by simp))
    have n3_ := mk_ (KeepBut.blk hk (g' := gb237) (o := .cells #[.int .i64 x238000_1, .int .i64 x238001_1, u238002, u238003] 59 (0, 0)) (u_ BK237.out) NB237_0.out (by simp))
    have n4_ := mk_ (KeepBut.trans (by repeat (first | (with_reducible first | exact HK.out | apply KeepBut.set_ | apply keep_drewN | apply keep_drew | apply keep_alloc | refine keep_far ?_ GW232.out _ | refine keep_far ?_ GW237.out _) | exact HK.out)) hk (.inl rfl))
    have n5_ := mk_ (hb)
    have n6_ := mk_ (hi)
    clear HO_238002
    clear HO_238003
    clear BK232
    clear BK237
    clear HK
    clear HB
    clear HI0
    have HO_238002 := n0_
    have HO_238003 := n1_
    have BK232 := n2_
    have BK237 := n3_
    have HK := n4_
    have HB := n5_
    have HI0 := n6_
    clear n0_ n1_ n2_ n3_ n4_ n5_ n6_
    (try clear hb)
    (try clear hb2)
    (try clear hk)
    (try clear hi)
    refine hK.out _ _ ⟨(blk_cell BK237.out 0).trans rfl, (blk_cell BK237.out 1).trans rfl, (blk_cell BK237.out 2).trans rfl, (blk_cell BK237.out 3).trans rfl⟩ (fun hHeld => ?_)
    clear hK K
    refine norm_ (a' := ?_) ?_ ?_
    rotate_left
    ·show Act.put _ (some 70) _ = _
     simp only [Act.put, la_, lz_, ls_, i64_w, i32_w]
     rfl
    refine pure_ (i := 6) (N := some 71) (v := ?_) (a' := ?_) #[T_, T_, T_, T_, T_, T_, T_, F_, F_, F_, F_, F_, F_] rfl rfl (any_of HT_.out (by kernel_rfl)) (fun _ _ _ h => h) (Or.inl ⟨by rfl, ?_⟩) ?_ ?_
    rotate_left
    ·intro w'
     go_simp
     with_reducible rfl
    rotate_left
    ·simp only [Act.put, la_, lz_, ls_, i64_w, i32_w]
     rfl
    refine pure_ (i := 7) (N := some 72) (v := ?_) (a' := ?_) #[T_, T_, T_, T_, T_, T_, T_, T_, F_, F_, F_, F_, F_] rfl rfl (any_of HT_.out (by kernel_rfl)) (fun _ _ _ h => h) (Or.inl ⟨by rfl, ?_⟩) ?_ ?_
    rotate_left
    ·intro w'
     go_simp
     with_reducible rfl
    rotate_left
    ·simp only [Act.put, la_, lz_, ls_, i64_w, i32_w]
     rfl
    refine pure_ (i := 8) (N := some 73) (v := ?_) (a' := ?_) #[T_, T_, T_, T_, T_, T_, T_, T_, T_, F_, F_, F_, F_] rfl rfl (any_of HT_.out (by kernel_rfl)) (fun _ _ _ h => h) (Or.inl ⟨by rfl, ?_⟩) ?_ ?_
    rotate_left
    ·intro w'
     go_simp
     with_reducible rfl
    rotate_left
    ·simp only [Act.put, la_, lz_, ls_, i64_w, i32_w]
     rfl
    refine one_ (i := 9) (N := some 74) #[T_, T_, T_, T_, T_, T_, T_, T_, T_, T_, F_, F_, F_] rfl rfl (one_of HT_.out (by kernel_rfl)) (by decide) (fun K hK => ?_)
    refine value_ (w1 := ?_) (v := ?_) (by rfl) rfl ?_ ?_
    rotate_left 2
    ·go_simp
     constructor
     ·rfl
     rfl
    refine hK.out _ _ ⟨(blk_cell (blk_alloc BK237.out _) 0).trans rfl, (blk_cell (blk_alloc BK237.out _) 1).trans rfl, (blk_cell (blk_alloc BK237.out _) 2).trans rfl, (blk_cell (blk_alloc BK237.out _) 3).trans rfl⟩ (fun hHeld => ?_)
    clear hK K
    refine norm_ (a' := ?_) ?_ ?_
    rotate_left
    ·show Act.put _ (some 74) _ = _
     simp only [Act.put, la_, lz_, ls_, i64_w, i32_w]
     rfl
    refine one_ (i := 10) (N := some 75) #[T_, T_, T_, T_, T_, T_, T_, T_, T_, T_, T_, F_, F_] rfl rfl (one_of HT_.out (by kernel_rfl)) (by decide) (fun K hK => ?_)
    refine Kd.Q_append_step k68 w.heap.size (by rfl) (.tmp 66) (.tmp 74) 57 68 (.agg #[(.int .i64 0), (.int .u8 0)]) 16 rfl Try.underlying57 info68 rfl (by decide) (by omega) u238003 x238003_1 (⟨wrap64 ((wrap64 (x238000_1 + t276)) - 3), 0⟩ : S68) [.int .i64 (wrap64 ((wrap64 (x238000_1 + t276)) - 3)), .int .u8 0] (fun _ => True) (fun _ => False) rfl rfl ?aP (fun _ hk => hk.elim) ?aF ?aO (Below.refl _ _) ?aS ?aL ?_
    (case aP => exact k68_mkM _ _ _ (⟨wrap64 ((wrap64 (x238000_1 + t276)) - 3), 0⟩ : S68))
    (case aF => exact (fun _ _ => trivial))
    (case aO => exact (by (with_reducible repeat (first | apply Kd.Q_alloc | apply Kd.Q_drewN | apply Kd.Q_drew)); exact HO_238003.out))
    (case aS => exact (keep_size (w := w) (g := g) (row := none) (by repeat (first | (with_reducible first | exact HK.out | apply KeepBut.set_ | apply keep_drewN | apply keep_drew | apply keep_alloc | refine keep_far ?_ GW232.out _ | refine keep_far ?_ GW237.out _) | exact HK.out))))
    (case aL => have := LMc91.out; omega)
    intro v14600 w14601 ho hb hg hat
    rw [← Ny278.out] at ho
    have n0_ := mk_ (Kd.R_over' (Kd.ur_ HO_238002.out) (Kd.Q_typed (by (with_reducible repeat (first | apply Kd.Q_alloc | apply Kd.Q_drewN | apply Kd.Q_drew)); exact HO_238003.out)) (by decide) hg)
    have n1_ := mk_ (blk_grown (g := gb232) (o := .cells #[.int .i64 0, .int .i64 0, .slice none 0 0, .slice none 0 0] 59 (0, 0)) (u_ BK232.out) hg (Kd.Q_ne HO_238003.out BK232.out (by decide)))
    have n2_ := mk_ (blk_grown (g := gb237) (o := .cells #[.int .i64 x238000_1, .int .i64 x238001_1, u238002, u238003] 59 (0, 0)) (u_ BK237.out) hg (Kd.Q_ne HO_238003.out BK237.out (by decide)))
    have n3_ := mk_ (IsS107.grown (by repeat (first | (with_reducible first | exact HI0.out | apply IsS107.alloc | apply IsS107.drewN | apply IsS107.drew | apply IsS107.set_1 | refine IsS107.far ?_ NB0_232.out _ | refine IsS107.far ?_ NB0_237.out _) | exact HI0.out)) hg (IsS107.own_neQ HI0.out HO_238003.out (by decide)))
    have n4_ := mk_ (below_weaken (by repeat (first | (with_reducible first | exact HB.out | apply na_ | apply nn_ | apply nw_ | refine bs_ ?_ (IsS107.ge HI0.out) | refine bs_ ?_ GE232.out | refine bs_ ?_ GE237.out) | exact HB.out)) HL.out hb)
    have n5_ := mk_ (KeepBut.trans (by repeat (first | (with_reducible first | exact HK.out | apply KeepBut.set_ | apply keep_drewN | apply keep_drew | apply keep_alloc | refine keep_far ?_ GW232.out _ | refine keep_far ?_ GW237.out _) | exact HK.out)) (KeepBut.of_grown hg g) (Kd.Q_base2 HO_238003.out))
    have n6_ := mk_ (ho)
    clear HO_238002
    clear BK232
    clear BK237
    clear HI0
    clear HB
    clear HK
    clear HO_238003
    have HO_238002 := n0_
    have BK232 := n1_
    have BK237 := n2_
    have HI0 := n3_
    have HB := n4_
    have HK := n5_
    have HO280 := n6_
    clear n0_ n1_ n2_ n3_ n4_ n5_ n6_
    clear ho hb hg hat
    obtain ⟨Ao25480, co25480, eo25480, _⟩ := Kd.Q_slice HO280.out
    (first | subst eo25480 | (injection eo25480 with f1_ f2_ f3_; have f4_ := f1_.symm; have f5_ := f3_.symm; clear f1_ f2_ f3_; subst f4_; subst f5_))
    refine hK.out _ _ ⟨(blk_cell BK237.out 0).trans rfl, (blk_cell BK237.out 1).trans rfl, (blk_cell BK237.out 2).trans rfl, (blk_cell BK237.out 3).trans rfl⟩ (fun hHeld => ?_)
    clear hK K
    refine norm_ (a' := ?_) ?_ ?_
    rotate_left
    ·show Act.put _ (some 75) _ = _
     simp only [Act.put, la_, lz_, ls_, i64_w, i32_w]
     rfl
    refine pure_ (i := 11) (N := some 76) (v := ?_) (a' := ?_) #[T_, T_, T_, T_, T_, T_, T_, T_, T_, T_, T_, T_, F_] rfl rfl (any_of HT_.out (by kernel_rfl)) (fun _ _ _ h => h) (Or.inl ⟨by rfl, ?_⟩) ?_ ?_
    rotate_left
    ·intro w'
     go_simp
     with_reducible rfl
    rotate_left
    ·simp only [Act.put, la_, lz_, ls_, i64_w, i32_w]
     rfl
    refine last_ (i := 12) (N := none) #[T_, T_, T_, T_, T_, T_, T_, T_, T_, T_, T_, T_, T_] rfl rfl (one_of HT_.out (by kernel_rfl)) (by decide) (fun K hK => ?_)
    have hs15920 : w14601.cell? ⟨gb237, 3, none⟩ = some (u238003) := (blk_cell BK237.out 3).trans rfl
    have hfs15920 := blk_frozen BK237.out 3
    have hns15920_0 := NB232_237.out
    have hms15920_0 := NB237_232.out
    refine skip_ (w1 := ?_) (by rfl) rfl ?_ ?_
    rotate_left
    ·go_simp
     rfl
    refine hK.out _ _ ?_
    clear hK K
    refine done_ (done_of HT_.out (by kernel_rfl)) ?_
    have hnb2320232237 := NB237_232.out
    have hnc2320232237 := NB232_237.out
    have hnb23400237 := NB237_0.out
    have hnc23400237 := NB0_237.out
    obtain ⟨_, _, _, _, _, _, _, _⟩ := cells4_ BK237.out
    have hnb23700232 := NB232_0.out
    have hnc23700232 := NB0_232.out
    obtain ⟨_, _, _, _, _, _, _, _⟩ := cells4_ BK232.out
    obtain ⟨Ao8480, co8480, eo8480⟩ := Kd.R_slice HO_238002.out
    subst eo8480
    try go_wp2
    refine bodyPost_ret (results_cell_row rfl _ _ gb232 59 #[.int .i64 x238000_1, .int .i64 x238001_1, .slice Ao8480 x238002_1.length co8480, .slice Ao25480 y278.length co25480] (0, 0) _ rfl (by (with_reducible repeat (first | refine bn_ ?_ _ | refine bw_ ?_ | refine ba_ ?_ _)); refine blk_put (cs := #[.int .i64 x238000_1, .int .i64 x238001_1, .slice Ao8480 x238002_1.length co8480, .slice none 0 0]) ?_ 3 _ rfl; (with_reducible repeat (first | refine bn_ ?_ _ | refine bw_ ?_ | refine ba_ ?_ _)); refine blk_put (cs := #[.int .i64 x238000_1, .int .i64 x238001_1, .slice none 0 0, .slice none 0 0]) ?_ 2 _ rfl; (with_reducible repeat (first | refine bn_ ?_ _ | refine bw_ ?_ | refine ba_ ?_ _)); refine blk_put (cs := #[.int .i64 x238000_1, .int .i64 0, .slice none 0 0, .slice none 0 0]) ?_ 1 _ rfl; (with_reducible repeat (first | refine bn_ ?_ _ | refine bw_ ?_ | refine ba_ ?_ _)); refine blk_put (cs := #[.int .i64 0, .int .i64 0, .slice none 0 0, .slice none 0 0]) ?_ 0 _ rfl; (with_reducible repeat (first | refine bn_ ?_ _ | refine bw_ ?_ | refine ba_ ?_ _)); refine blk_far ?_ NB232_237.out _; (with_reducible repeat (first | refine bn_ ?_ _ | refine bw_ ?_ | refine ba_ ?_ _)); exact BK232.out) Try.underlying59 rfl (by kernel_rfl)) rfl ?_
    exact ⟨_, _, by first | rfl | (simp [errW_none, errW_some] <;> rfl) | (simp [*, errW_none, errW_some] <;> rfl), by (with_reducible repeat (first | apply Kd.R_alloc | apply Kd.R_drewN | apply Kd.R_drew)); exact Kd.R_mono (Kd.R_far (p := ⟨gb232, 3, none⟩) (Kd.R_far (p := ⟨gb232, 2, none⟩) (Kd.R_far (p := ⟨gb232, 1, none⟩) (Kd.R_far (p := ⟨gb232, 0, none⟩) (Kd.R_far (p := ⟨gb237, 3, none⟩) (Kd.R_types (Kd.R_types HO_238002.out BK237.out (by decide)) BK232.out (by decide)) (fun _ hk => hk.1.2) (.slice Ao25480 y278.length co25480)) (fun _ hk => hk.2) (.int .i64 x238000_1)) (fun _ hk => hk.2) (.int .i64 x238001_1)) (fun _ hk => hk.2) (.slice Ao8480 x238002_1.length co8480)) (fun _ hk => hk.2) (.slice Ao25480 y278.length co25480)) (fun _ hk => trivial), by (with_reducible repeat (first | apply Kd.Q_alloc | apply Kd.Q_drewN | apply Kd.Q_drew)); exact Kd.Q_mono (Kd.Q_far (p := ⟨gb232, 3, none⟩) (Kd.Q_far (p := ⟨gb232, 2, none⟩) (Kd.Q_far (p := ⟨gb232, 1, none⟩) (Kd.Q_far (p := ⟨gb232, 0, none⟩) (Kd.Q_far (p := ⟨gb237, 3, none⟩) (Kd.Q_types (Kd.Q_types HO280.out BK237.out (by decide)) BK232.out (by decide)) (fun _ hk => hk.1.2) (.slice Ao25480 y278.length co25480)) (fun _ hk => hk.2) (.int .i64 x238000_1)) (fun _ hk => hk.2) (.int .i64 x238001_1)) (fun _ hk => hk.2) (.slice Ao8480 x238002_1.length co8480)) (fun _ hk => hk.2) (.slice Ao25480 y278.length co25480)) (fun _ hk => trivial), by repeat (first | (with_reducible first | exact HI0.out | apply IsS107.alloc | apply IsS107.drewN | apply IsS107.drew | apply IsS107.set_1 | refine IsS107.far ?_ NB0_232.out _ | refine IsS107.far ?_ NB0_237.out _) | exact HI0.out), by repeat (first | (with_reducible first | exact HB.out | apply na_ | apply nn_ | apply nw_ | refine bs_ ?_ (IsS107.ge HI0.out) | refine bs_ ?_ GE232.out | refine bs_ ?_ GE237.out) | exact HB.out), by repeat (first | (with_reducible first | exact HK.out | apply KeepBut.set_ | apply keep_drewN | apply keep_drew | apply keep_alloc | refine keep_far ?_ GW232.out _ | refine keep_far ?_ GW237.out _) | exact HK.out)⟩
   all_goals
    refine start_ (n := 7) (S := fun w' => w'.cell? ⟨gb237, 0, none⟩ = some (.int .i64 x238000_1) ∧ w'.cell? ⟨gb237, 1, none⟩ = some (.int .i64 x238001_1) ∧ w'.cell? ⟨gb237, 2, none⟩ = some (u238002) ∧ w'.cell? ⟨gb237, 3, none⟩ = some (u238003)) (ds := []) #[F_, F_, F_, F_, F_, F_, F_] (by kernel_rfl) rfl rfl ⟨(blk_cell BK237.out 0).trans rfl, (blk_cell BK237.out 1).trans rfl, (blk_cell BK237.out 2).trans rfl, (blk_cell BK237.out 3).trans rfl⟩ (fun hHeld => ?_)
    generalize wr.drew = w25560 at HO_238002 HO_238003 BK232 BK237 HI0 HK HB hHeld ⊢
    refine pure_ (i := 0) (N := some 22) (v := ?_) (a' := ?_) #[T_, F_, F_, F_, F_, F_, F_] rfl rfl (by kernel_rfl) (fun _ _ _ h => h) (Or.inl ⟨by rfl, ?_⟩) ?_ ?_
    rotate_left
    ·intro w'
     go_simp
     with_reducible rfl
    rotate_left
    ·simp only [Act.put, la_, lz_, ls_, i64_w, i32_w]
     rfl
    refine pure_ (i := 2) (N := some 24) (v := ?_) (a' := ?_) #[T_, F_, T_, F_, F_, F_, F_] rfl rfl (by kernel_rfl) (fun _ _ _ h => h) (Or.inl ⟨by rfl, ?_⟩) ?_ ?_
    rotate_left
    ·intro w'
     go_simp
     with_reducible rfl
    rotate_left
    ·simp only [Act.put, la_, lz_, ls_, i64_w, i32_w]
     rfl
    refine take_ (i := 1) (N := some 23) (v := ?_) (a' := ?_) #[T_, T_, T_, F_, F_, F_, F_] rfl rfl (by kernel_rfl) (fun _ _ _ h => h) (Or.inl ⟨by rfl, ?_⟩) hHeld ?_ ?_
    rotate_left
    ·rintro w' ⟨s4880, s4881, s4882, s4883⟩
     go_simp
     with_reducible rfl
    rotate_left
    ·simp only [Act.put, la_, lz_, ls_, i64_w, i32_w]
     rfl
    refine one_ (i := 3) (N := some 25) #[T_, T_, T_, T_, F_, F_, F_] rfl rfl (by kernel_rfl) (by decide) (fun K hK => ?_)
    refine goes_ Try.func46 (by kernel_rfl) rfl #[.pointer (some ⟨g, 0, none⟩), .int .i64 14] (by rfl) rfl rfl (by (try simp only [lm_, lo_, ln_]); try rfl) ?_
    with_reducible refine (spec_l20Rd_pick.calls k1 g s0_0 x1001_1 14 t240 t241 w0 _ ?side1 ?side2 A15.out).mono ?_
    (case side1 => repeat (first | (with_reducible first | exact HI0.out | apply IsS107.alloc | apply IsS107.drewN | apply IsS107.drew | apply IsS107.set_1 | refine IsS107.far ?_ NB0_232.out _ | refine IsS107.far ?_ NB0_237.out _) | exact HI0.out))
    (case side2 => repeat (first | (with_reducible first | exact HB.out | apply na_ | apply nn_ | apply nw_ | refine bs_ ?_ (IsS107.ge HI0.out) | refine bs_ ?_ GE232.out | refine bs_ ?_ GE237.out) | exact HB.out))
    rintro e w24320 ⟨rfl, hi, hb, hk⟩
    refine ⟨_, rfl, ?_⟩
    have n0_ := mk_ (Kd.R_mono (Kd.R_keep (IsS107.apart (show IsS107 w0 _ g s0_0 x1001_1 from by repeat (first | (with_reducible first | exact HI0.out | apply IsS107.alloc | apply IsS107.drewN | apply IsS107.drew | apply IsS107.set_1 | refine IsS107.far ?_ NB0_232.out _ | refine IsS107.far ?_ NB0_237.out _) | exact HI0.out)) (Kd.ur_ HO_238002.out) (by decide)) hk (fun _ h => h.2)) (fun _ h => h.1))
    have n1_ := mk_ (Kd.Q_mono (Kd.Q_keep (IsS107.apartQ (show IsS107 w0 _ g s0_0 x1001_1 from by repeat (first | (with_reducible first | exact HI0.out | apply IsS107.alloc | apply IsS107.drewN | apply IsS107.drew | apply IsS107.set_1 | refine IsS107.far ?_ NB0_232.out _ | refine IsS107.far ?_ NB0_237.out _) | exact HI0.out)) (by (with_reducible repeat (first | apply Kd.Q_alloc | apply Kd.Q_drewN | apply Kd.Q_drew)); exact HO_238003.out) (by decide)) hk (fun _ h => h.2)) (fun _ h => h.1))
    have n2_ := mk_ (KeepBut.blk hk (g' := gb232) (o := .cells #[.int .i64 0, .int .i64 0, .slice none 0 0, .slice none 0 0] 59 (0, 0)) (u_ BK232.out) NB232_0.out (by simp))
    have n3_ := mk_ (KeepBut.blk hk (g' := gb237) (o := .cells #[.int .i64 x238000_1, .int .i64 x238001_1, u238002, u238003] 59 (0, 0)) (u_ BK237.out) NB237_0.out (by simp))
    have n4_ := mk_ (KeepBut.trans (by repeat (first | (with_reducible first | exact HK.out | apply KeepBut.set_ | apply keep_drewN | apply keep_drew | apply keep_alloc | refine keep_far ?_ GW232.out _ | refine keep_far ?_ GW237.out _) | exact HK.out)) hk (.inl rfl))
    have n5_ := mk_ (hb)
    have n6_ := mk_ (hi)
    clear HO_238002
    clear HO_238003
    clear BK232
    clear BK237
    clear HK
    clear HB
    clear HI0
    have HO_238002 := n0_
    have HO_238003 := n1_
    have BK232 := n2_
    have BK237 := n3_
    have HK := n4_
    have HB := n5_
    have HI0 := n6_
    clear n0_ n1_ n2_ n3_ n4_ n5_ n6_
    (try clear hb)
    (try clear hb2)
    (try clear hk)
    (try clear hi)
    refine hK.out _ _ ⟨(blk_cell BK237.out 0).trans rfl, (blk_cell BK237.out 1).trans rfl, (blk_cell BK237.out 2).trans rfl, (blk_cell BK237.out 3).trans rfl⟩ (fun hHeld => ?_)
    clear hK K
    refine norm_ (a' := ?_) ?_ ?_
    rotate_left
    ·show Act.put _ (some 25) _ = _
     simp only [Act.put, la_, lz_, ls_, i64_w, i32_w]
     rfl
    refine pure_ (i := 4) (N := some 26) (v := ?_) (a' := ?_) #[T_, T_, T_, T_, T_, F_, F_] rfl rfl (by kernel_rfl) (fun _ _ _ h => h) (Or.inl ⟨by rfl, ?_⟩) ?_ ?_
    rotate_left
    ·intro w'
     go_simp
     with_reducible rfl
    rotate_left
    ·simp only [Act.put, la_, lz_, ls_, i64_w, i32_w]
     rfl
    refine pure_ (i := 5) (N := some 27) (v := ?_) (a' := ?_) #[T_, T_, T_, T_, T_, T_, F_] rfl rfl (by kernel_rfl) (fun _ _ _ h => h) (Or.inl ⟨by rfl, ?_⟩) ?_ ?_
    rotate_left
    ·intro w'
     go_simp
     with_reducible rfl
    rotate_left
    ·simp only [Act.put, la_, lz_, ls_, i64_w, i32_w]
     rfl
    refine pure_ (i := 6) (N := some 7) (v := ?_) (a' := ?_) #[T_, T_, T_, T_, T_, T_, T_] rfl rfl (by kernel_rfl) (fun _ _ _ h => h) (Or.inl ⟨by rfl, ?_⟩) ?_ ?_
    rotate_left
    ·intro w'
     go_simp
     with_reducible rfl
    rotate_left
    ·simp only [Act.put, la_, lz_, ls_, i64_w, i32_w]
     rfl
    refine done_ (by kernel_rfl) ?_
    try go_wp2
    have n0_ := mk_ (Kd.R_drew HO_238002.out)
    have n1_ := mk_ (Kd.Q_drew HO_238003.out)
    have n2_ := mk_ (blk_drew BK232.out)
    have n3_ := mk_ (blk_drew BK237.out)
    have n4_ := mk_ (IsS107.drew HI0.out)
    have n5_ := mk_ (keep_drew HK.out)
    have n6_ := mk_ (below_drew1 HB.out)
    clear HO_238002
    clear HO_238003
    clear BK232
    clear BK237
    clear HI0
    clear HK
    clear HB
    have HO_238002 := n0_
    have HO_238003 := n1_
    have BK232 := n2_
    have BK237 := n3_
    have HI0 := n4_
    have HK := n5_
    have HB := n6_
    clear n0_ n1_ n2_ n3_ n4_ n5_ n6_
    refine start_ (n := 8) (S := fun w' => w'.cell? ⟨gb237, 0, none⟩ = some (.int .i64 x238000_1) ∧ w'.cell? ⟨gb237, 1, none⟩ = some (.int .i64 x238001_1) ∧ w'.cell? ⟨gb237, 2, none⟩ = some (u238002) ∧ w'.cell? ⟨gb237, 3, none⟩ = some (u238003)) (ds := [7]) #[F_, F_, F_, F_, F_, F_, F_, F_] (by kernel_rfl) rfl rfl ⟨(blk_cell BK237.out 0).trans rfl, (blk_cell BK237.out 1).trans rfl, (blk_cell BK237.out 2).trans rfl, (blk_cell BK237.out 3).trans rfl⟩ (fun hHeld => ?_); refine with_tabW spec_l20Ear.tab6 spec_l20Ear.bits6 (fun HT_ HW_ => ?_)
    generalize w24320.drew = w18000 at HO_238002 HO_238003 BK232 BK237 HI0 HK HB hHeld ⊢
    refine pure_ (i := 1) (N := some 29) (v := ?_) (a' := ?_) #[F_, T_, F_, F_, F_, F_, F_, F_] rfl rfl (any_of HT_.out (by kernel_rfl)) (fun _ _ _ h => h) (Or.inl ⟨by rfl, ?_⟩) ?_ ?_
    rotate_left
    ·intro w'
     go_simp
     with_reducible rfl
    rotate_left
    ·simp only [Act.put, la_, lz_, ls_, i64_w, i32_w]
     rfl
    refine pure_ (i := 2) (N := some 30) (v := ?_) (a' := ?_) #[F_, T_, T_, F_, F_, F_, F_, F_] rfl rfl (any_of HT_.out (by kernel_rfl)) (fun _ _ _ h => h) (Or.inl ⟨by rfl, ?_⟩) ?_ ?_
    rotate_left
    ·intro w'
     go_simp
     with_reducible rfl
    rotate_left
    ·simp only [Act.put, la_, lz_, ls_, i64_w, i32_w]
     rfl
    refine pure_ (i := 3) (N := some 31) (v := ?_) (a' := ?_) #[F_, T_, T_, T_, F_, F_, F_, F_] rfl rfl (any_of HT_.out (by kernel_rfl)) (fun _ _ _ h => h) (Or.inl ⟨by rfl, ?_⟩) ?_ ?_
    rotate_left
    ·intro w'
     go_simp
     with_reducible rfl
    rotate_left
    ·simp only [Act.put, la_, lz_, ls_, i64_w, i32_w]
     rfl
    refine take_ (i := 0) (N := some 28) (v := ?_) (a' := ?_) #[T_, T_, T_, T_, F_, F_, F_, F_] rfl rfl (take_ofW HT_.out HW_.out (by kernel_rfl)) (fun _ _ _ h => h) (Or.inl ⟨by rfl, ?_⟩) hHeld ?_ ?_
    rotate_left
    ·rintro w' ⟨s4880, s4881, s4882, s4883⟩
     go_simp
     with_reducible rfl
    rotate_left
    ·simp only [Act.put, la_, lz_, ls_, i64_w, i32_w]
     rfl
    refine one_ (i := 4) (N := some 32) #[T_, T_, T_, T_, T_, F_, F_, F_] rfl rfl (one_of HT_.out (by kernel_rfl)) (by decide) (fun K hK => ?_)
    refine goes_ Try.func46 (by kernel_rfl) rfl #[.pointer (some ⟨g, 0, none⟩), .int .i64 5] (by rfl) rfl rfl (by (try simp only [lm_, lo_, ln_]); try rfl) ?_
    with_reducible refine (spec_l20Rd_pick.calls k1 g s0_0 t241 5 t242 t243 w0 _ ?side1 ?side2 A16.out).mono ?_
    (case side1 => repeat (first | (with_reducible first | exact HI0.out | apply IsS107.alloc | apply IsS107.drewN | apply IsS107.drew | apply IsS107.set_1 | refine IsS107.far ?_ NB0_232.out _ | refine IsS107.far ?_ NB0_237.out _) | exact HI0.out))
    (case side2 => repeat (first | (with_reducible first | exact HB.out | apply na_ | apply nn_ | apply nw_ | refine bs_ ?_ (IsS107.ge HI0.out) | refine bs_ ?_ GE232.out | refine bs_ ?_ GE237.out) | exact HB.out))
    rintro e w26080 ⟨rfl, hi, hb, hk⟩
    refine ⟨_, rfl, ?_⟩
    have n0_ := mk_ (Kd.R_mono (Kd.R_keep (IsS107.apart (show IsS107 w0 _ g s0_0 t241 from by repeat (first | (with_reducible first | exact HI0.out | apply IsS107.alloc | apply IsS107.drewN | apply IsS107.drew | apply IsS107.set_1 | refine IsS107.far ?_ NB0_232.out _ | refine IsS107.far ?_ NB0_237.out _) | exact HI0.out)) (Kd.ur_ HO_238002.out) (by decide)) hk (fun _ h => h.2)) (fun _ h => h.1))
    have n1_ := mk_ (Kd.Q_mono (Kd.Q_keep (IsS107.apartQ (show IsS107 w0 _ g s0_0 t241 from by repeat (first | (with_reducible first | exact HI0.out | apply IsS107.alloc | apply IsS107.drewN | apply IsS107.drew | apply IsS107.set_1 | refine IsS107.far ?_ NB0_232.out _ | refine IsS107.far ?_ NB0_237.out _) | exact HI0.out)) (by (with_reducible repeat (first | apply Kd.Q_alloc | apply Kd.Q_drewN | apply Kd.Q_drew)); exact HO_238003.out) (by decide)) hk (fun _ h => h.2)) (fun _ h => h.1))
    have n2_ := mk_ (KeepBut.blk hk (g' := gb232) (o := .cells #[.int .i64 0, .int .i64 0, .slice none 0 0, .slice none 0 0] 59 (0, 0)) (u_ BK232.out) NB232_0.out (by simp))
    have n3_ := mk_ (KeepBut.blk hk (g' := gb237) (o := .cells #[.int .i64 x238000_1, .int .i64 x238001_1, u238002, u238003] 59 (0, 0)) (u_ BK237.out) NB237_0.out (by simp))
    have n4_ := mk_ (KeepBut.trans (by repeat (first | (with_reducible first | exact HK.out | apply KeepBut.set_ | apply keep_drewN | apply keep_drew | apply keep_alloc | refine keep_far ?_ GW232.out _ | refine keep_far ?_ GW237.out _) | exact HK.out)) hk (.inl rfl))
    have n5_ := mk_ (hb)
    have n6_ := mk_ (hi)
    clear HO_238002
    clear HO_238003
    clear BK232
    clear BK237
    clear HK
    clear HB
    clear HI0
    have HO_238002 := n0_
    have HO_238003 := n1_
    have BK232 := n2_
    have BK237 := n3_
    have HK := n4_
    have HB := n5_
    have HI0 := n6_
    clear n0_ n1_ n2_ n3_ n4_ n5_ n6_
    (try clear hb)
    (try clear hb2)
    (try clear hk)
    (try clear hi)
    refine hK.out _ _ ⟨(blk_cell BK237.out 0).trans rfl, (blk_cell BK237.out 1).trans rfl, (blk_cell BK237.out 2).trans rfl, (blk_cell BK237.out 3).trans rfl⟩ (fun hHeld => ?_)
    clear hK K
    refine norm_ (a' := ?_) ?_ ?_
    rotate_left
    ·show Act.put _ (some 32) _ = _
     simp only [Act.put, la_, lz_, ls_, i64_w, i32_w]
     rfl
    refine one_ (i := 5) (N := some 33) #[T_, T_, T_, T_, T_, T_, F_, F_] rfl rfl (one_of HT_.out (by kernel_rfl)) (by decide) (fun K hK => ?_)
    refine goes_ Try.func112 (by kernel_rfl) rfl #[.int .i64 (wrap64 ((wrap64 (x238000_1 + t240)) - 4)), .int .i64 t242] (by rfl) rfl rfl (by (try simp only [lm_, lo_, ln_]); try rfl) ?_
    with_reducible refine (spec_l20Heard.calls k1 (wrap64 ((wrap64 (x238000_1 + t240)) - 4)) t242 t244 _ A17.out).mono ?_
    rintro e w27000 ⟨v27001, rfl, ho4880, hb⟩
    refine ⟨_, rfl, ?_⟩
    have n0_ := mk_ (Kd.R_elder' (Kd.ur_ HO_238002.out) (Kd.R_base ho4880) hb)
    have n1_ := mk_ (Kd.Q_below (by (with_reducible repeat (first | apply Kd.Q_alloc | apply Kd.Q_drewN | apply Kd.Q_drew)); exact HO_238003.out) hb)
    have n2_ := mk_ (Kd.R_lower (Kd.R_new' ho4880 (Kd.R_lt (Kd.ur_ HO_238002.out))) (keep_size (w := w) (g := g) (row := none) (by repeat (first | (with_reducible first | exact HK.out | apply KeepBut.set_ | apply keep_drewN | apply keep_drew | apply keep_alloc | refine keep_far ?_ GW232.out _ | refine keep_far ?_ GW237.out _) | exact HK.out))))
    have n3_ := mk_ (blk_below (u_ BK232.out) hb)
    have n4_ := mk_ (blk_below (u_ BK237.out) hb)
    have n5_ := mk_ (IsS107.below (by repeat (first | (with_reducible first | exact HI0.out | apply IsS107.alloc | apply IsS107.drewN | apply IsS107.drew | apply IsS107.set_1 | refine IsS107.far ?_ NB0_232.out _ | refine IsS107.far ?_ NB0_237.out _) | exact HI0.out)) hb)
    have n6_ := mk_ (KeepBut.trans (by repeat (first | (with_reducible first | exact HK.out | apply KeepBut.set_ | apply keep_drewN | apply keep_drew | apply keep_alloc | refine keep_far ?_ GW232.out _ | refine keep_far ?_ GW237.out _) | exact HK.out)) (KeepBut.of_below hb g none) (.inl rfl))
    have n7_ := mk_ (below_step (by repeat (first | (with_reducible first | exact HB.out | apply na_ | apply nn_ | apply nw_ | refine bs_ ?_ (IsS107.ge HI0.out) | refine bs_ ?_ GE232.out | refine bs_ ?_ GE237.out) | exact HB.out)) hb)
    clear HO_238002
    clear HO_238003
    clear BK232
    clear BK237
    clear HI0
    clear HK
    clear HB
    have HO_238002 := n0_
    have HO_238003 := n1_
    have HO246 := n2_
    have BK232 := n3_
    have BK237 := n4_
    have HI0 := n5_
    have HK := n6_
    have HB := n7_
    clear n0_ n1_ n2_ n3_ n4_ n5_ n6_ n7_
    (try clear hb)
    (try clear hb2)
    (try clear hk)
    (try clear hi)
    (try clear ho4880)
    obtain ⟨Ao8480, co8480, eo8480⟩ := Kd.R_slice HO_238002.out
    (first | subst eo8480 | (injection eo8480 with f1_ f2_ f3_; have f4_ := f1_.symm; have f5_ := f3_.symm; clear f1_ f2_ f3_; subst f4_; subst f5_))
    obtain ⟨Ao27880, co27880, eo27880, _⟩ := Kd.Q_slice HO_238003.out
    (first | subst eo27880 | (injection eo27880 with f1_ f2_ f3_; have f4_ := f1_.symm; have f5_ := f3_.symm; clear f1_ f2_ f3_; subst f4_; subst f5_))
    obtain ⟨Ao1450246, co1450246, eo1450246⟩ := Kd.R_slice HO246.out
    (first | subst eo1450246 | (injection eo1450246 with f1_ f2_ f3_; have f4_ := f1_.symm; have f5_ := f3_.symm; clear f1_ f2_ f3_; subst f4_; subst f5_))
    refine hK.out _ _ ⟨(blk_cell BK237.out 0).trans rfl, (blk_cell BK237.out 1).trans rfl, (blk_cell BK237.out 2).trans rfl, (blk_cell BK237.out 3).trans rfl⟩ (fun hHeld => ?_)
    clear hK K
    refine norm_ (a' := ?_) ?_ ?_
    rotate_left
    ·show Act.put _ (some 33) _ = _
     simp only [Act.put, la_, lz_, ls_, i64_w, i32_w]
     rfl
    refine one_ (i := 6) (N := some 34) #[T_, T_, T_, T_, T_, T_, T_, F_] rfl rfl (one_of HT_.out (by kernel_rfl)) (by decide) (fun K hK => ?_)
    refine goes_ Try.func111 (by kernel_rfl) rfl #[.agg #[.int .i64 x238000_1, .int .i64 x238001_1, .slice Ao8480 x238002_1.length co8480, .slice Ao27880 x238003_1.length co27880], .int .i64 (wrap64 ((wrap64 (x238000_1 + t240)) - 4)), .slice Ao1450246 t244.length co1450246] (by rfl) rfl rfl (by (try simp only [lm_, lo_, ln_]); try rfl) ?_
    with_reducible refine (spec_EarHear.calls k1 x238000_1 x238001_1 _ _ x238002_1 _ _ x238003_1 (wrap64 ((wrap64 (x238000_1 + t240)) - 4)) _ _ t244 t247 t248 t249 t252 _ ?side1 ?side2 ?side3 ?side4 ?side5 ?side6 A18.out).mono ?_
    (case side1 => repeat (first | exact (Kd.R_reads' HO_238002.out).2.2 | (with_reducible refine Kd.C_alloc ?_ _) | (with_reducible refine Kd.C_drewN ?_ _) | (with_reducible refine Kd.C_drew ?_)))
    (case side2 => exact (Kd.R_reads' HO_238002.out).2.1)
    (case side3 => repeat (first | exact (Kd.Q_reads' HO_238003.out).2.2 | (with_reducible refine Kd.C_alloc ?_ _) | (with_reducible refine Kd.C_drewN ?_ _) | (with_reducible refine Kd.C_drew ?_)))
    (case side4 => exact (Kd.Q_reads' HO_238003.out).2.1)
    (case side5 => repeat (first | exact (Kd.R_reads' HO246.out).2.2 | (with_reducible refine Kd.C_alloc ?_ _) | (with_reducible refine Kd.C_drewN ?_ _) | (with_reducible refine Kd.C_drew ?_)))
    (case side6 => exact (Kd.R_reads' HO246.out).2.1)
    rintro e w28320 ⟨v28321, v28322, rfl, ho4880, ho4881, hb⟩
    refine ⟨_, rfl, ?_⟩
    have n0_ := mk_ (Kd.R_elder' (Kd.ur_ HO_238002.out) (Kd.R_base ho4880) hb)
    have n1_ := mk_ (Kd.Q_elder' (by (with_reducible repeat (first | apply Kd.Q_alloc | apply Kd.Q_drewN | apply Kd.Q_drew)); exact HO_238003.out) (Kd.Q_base ho4881) hb)
    have n2_ := mk_ (Kd.R_elder' (Kd.ur_ HO246.out) (Kd.R_base ho4880) hb)
    have n3_ := mk_ (Kd.R_lower (Kd.R_new' (Kd.R_new' ho4880 (Kd.R_lt (Kd.ur_ HO_238002.out))) (Kd.R_lt (Kd.ur_ HO246.out))) (keep_size (w := w) (g := g) (row := none) (by repeat (first | (with_reducible first | exact HK.out | apply KeepBut.set_ | apply keep_drewN | apply keep_drew | apply keep_alloc | refine keep_far ?_ GW232.out _ | refine keep_far ?_ GW237.out _) | exact HK.out))))
    have n4_ := mk_ (Kd.Q_lower (Kd.Q_new' ho4881 (Kd.Q_lt (by (with_reducible repeat (first | apply Kd.Q_alloc | apply Kd.Q_drewN | apply Kd.Q_drew)); exact HO_238003.out))) (keep_size (w := w) (g := g) (row := none) (by repeat (first | (with_reducible first | exact HK.out | apply KeepBut.set_ | apply keep_drewN | apply keep_drew | apply keep_alloc | refine keep_far ?_ GW232.out _ | refine keep_far ?_ GW237.out _) | exact HK.out))))
    have n5_ := mk_ (blk_below (u_ BK232.out) hb)
    have n6_ := mk_ (blk_below (u_ BK237.out) hb)
    have n7_ := mk_ (IsS107.below (by repeat (first | (with_reducible first | exact HI0.out | apply IsS107.alloc | apply IsS107.drewN | apply IsS107.drew | apply IsS107.set_1 | refine IsS107.far ?_ NB0_232.out _ | refine IsS107.far ?_ NB0_237.out _) | exact HI0.out)) hb)
    have n8_ := mk_ (KeepBut.trans (by repeat (first | (with_reducible first | exact HK.out | apply KeepBut.set_ | apply keep_drewN | apply keep_drew | apply keep_alloc | refine keep_far ?_ GW232.out _ | refine keep_far ?_ GW237.out _) | exact HK.out)) (KeepBut.of_below hb g none) (.inl rfl))
    have n9_ := mk_ (below_step (by repeat (first | (with_reducible first | exact HB.out | apply na_ | apply nn_ | apply nw_ | refine bs_ ?_ (IsS107.ge HI0.out) | refine bs_ ?_ GE232.out | refine bs_ ?_ GE237.out) | exact HB.out)) hb)
    clear HO_238002
    clear HO_238003
    clear HO246
    clear BK232
    clear BK237
    clear HI0
    clear HK
    clear HB
    have HO_238002 := n0_
    have HO_238003 := n1_
    have HO246 := n2_
    have HO251 := n3_
    have HO254 := n4_
    have BK232 := n5_
    have BK237 := n6_
    have HI0 := n7_
    have HK := n8_
    have HB := n9_
    clear n0_ n1_ n2_ n3_ n4_ n5_ n6_ n7_ n8_ n9_
    (try clear hb)
    (try clear hb2)
    (try clear hk)
    (try clear hi)
    (try clear ho4880)
    (try clear ho4881)
    obtain ⟨Ao4520251, co4520251, eo4520251⟩ := Kd.R_slice HO251.out
    (first | subst eo4520251 | (injection eo4520251 with f1_ f2_ f3_; have f4_ := f1_.symm; have f5_ := f3_.symm; clear f1_ f2_ f3_; subst f4_; subst f5_))
    obtain ⟨Ao25480, co25480, eo25480, _⟩ := Kd.Q_slice HO254.out
    (first | subst eo25480 | (injection eo25480 with f1_ f2_ f3_; have f4_ := f1_.symm; have f5_ := f3_.symm; clear f1_ f2_ f3_; subst f4_; subst f5_))
    refine hK.out _ _ ⟨(blk_cell BK237.out 0).trans rfl, (blk_cell BK237.out 1).trans rfl, (blk_cell BK237.out 2).trans rfl, (blk_cell BK237.out 3).trans rfl⟩ (fun hHeld => ?_)
    clear hK K
    refine norm_ (a' := ?_) ?_ ?_
    rotate_left
    ·show Act.put _ (some 34) _ = _
     simp only [Act.put, la_, lz_, ls_, i64_w, i32_w]
     rfl
    refine last_ (i := 7) (N := none) #[T_, T_, T_, T_, T_, T_, T_, T_] rfl rfl (one_of HT_.out (by kernel_rfl)) (by decide) (fun K hK => ?_)
    have hs29600 : w28320.cell? ⟨gb237, 0, none⟩ = some (.int .i64 x238000_1) := (blk_cell BK237.out 0).trans rfl
    have hfs29600 := blk_frozen BK237.out 0
    have hns29600_0 := NB232_237.out
    have hms29600_0 := NB237_232.out
    have hs29640 : w28320.cell? ⟨gb237, 1, none⟩ = some (.int .i64 x238001_1) := (blk_cell BK237.out 1).trans rfl
    have hfs29640 := blk_frozen BK237.out 1
    have hns29640_0 := NB232_237.out
    have hms29640_0 := NB237_232.out
    have hs29680 : w28320.cell? ⟨gb237, 2, none⟩ = some (.slice Ao8480 x238002_1.length co8480) := (blk_cell BK237.out 2).trans rfl
    have hfs29680 := blk_frozen BK237.out 2
    have hns29680_0 := NB232_237.out
    have hms29680_0 := NB237_232.out
    have hs29720 : w28320.cell? ⟨gb237, 3, none⟩ = some (.slice Ao27880 x238003_1.length co27880) := (blk_cell BK237.out 3).trans rfl
    have hfs29720 := blk_frozen BK237.out 3
    have hns29720_0 := NB232_237.out
    have hms29720_0 := NB237_232.out
    refine skip_ (w1 := ?_) (by rfl) rfl ?_ ?_
    rotate_left
    ·go_simp
     rfl
    refine hK.out _ _ ?_
    clear hK K
    refine done_ (done_of HT_.out (by kernel_rfl)) ?_
    try go_wp2_with (first | ((with_reducible refine gate_callee (f := 46) rfl ?_); refine goesL_ (some 36) rfl rfl Try.func46 (by kernel_rfl) rfl #[.pointer (some ⟨g, 0, none⟩), .int .i64 4] rfl (by (try simp only [lm_, lo_, ln_]); try rfl) ?_; (with_reducible refine (spec_l20Rd_pick.calls k1 g s0_0 t243 4 t255 t256 w0 _ ?side1 ?side2 A19.out).mono ?_); (case side1 => repeat (first | (with_reducible first | exact HI0.out | apply IsS107.alloc | apply IsS107.drewN | apply IsS107.drew | apply IsS107.set_1 | refine IsS107.far ?_ NB0_232.out _ | refine IsS107.far ?_ NB0_237.out _) | exact HI0.out)); (case side2 => repeat (first | (with_reducible first | exact HB.out | apply na_ | apply nn_ | apply nw_ | refine bs_ ?_ (IsS107.ge HI0.out) | refine bs_ ?_ GE232.out | refine bs_ ?_ GE237.out) | exact HB.out)); rintro e w29800 ⟨rfl, hi, hb, hk⟩; refine ⟨_, rfl, ?_⟩; replace HO_238002 := mk_ (Kd.R_mono (Kd.R_keep (IsS107.apart (show IsS107 w0 _ g s0_0 t243 from by repeat (first | (with_reducible first | exact HI0.out | apply IsS107.alloc | apply IsS107.drewN | apply IsS107.drew | apply IsS107.set_1 | refine IsS107.far ?_ NB0_232.out _ | refine IsS107.far ?_ NB0_237.out _) | exact HI0.out)) (by (with_reducible repeat (first | apply Kd.R_alloc | apply Kd.R_drewN | apply Kd.R_drew)); exact (Kd.R_mono (Kd.R_far (p := ⟨gb237, 3, none⟩) (Kd.R_far (p := ⟨gb237, 2, none⟩) (Kd.R_far (p := ⟨gb237, 1, none⟩) (Kd.R_far (p := ⟨gb237, 0, none⟩) (Kd.R_types HO_238002.out BK237.out (by decide)) (fun _ hk => hk.2) (.int .i64 t247)) (fun _ hk => hk.2) (.int .i64 t248)) (fun _ hk => hk.2) (.slice Ao4520251 t249.length co4520251)) (fun _ hk => hk.2) (.slice Ao25480 t252.length co25480)) (fun _ h_ => by first | exact h_.1 | simp only [h_, ne_eq, not_false_eq_true, and_self]))) (by decide)) hk (fun _ h => h.2)) (fun _ h => h.1)); replace HO_238003 := mk_ (Kd.Q_mono (Kd.Q_keep (IsS107.apartQ (show IsS107 w0 _ g s0_0 t243 from by repeat (first | (with_reducible first | exact HI0.out | apply IsS107.alloc | apply IsS107.drewN | apply IsS107.drew | apply IsS107.set_1 | refine IsS107.far ?_ NB0_232.out _ | refine IsS107.far ?_ NB0_237.out _) | exact HI0.out)) (by (with_reducible repeat (first | apply Kd.Q_alloc | apply Kd.Q_drewN | apply Kd.Q_drew)); exact (Kd.Q_mono (Kd.Q_far (p := ⟨gb237, 3, none⟩) (Kd.Q_far (p := ⟨gb237, 2, none⟩) (Kd.Q_far (p := ⟨gb237, 1, none⟩) (Kd.Q_far (p := ⟨gb237, 0, none⟩) (Kd.Q_types HO_238003.out BK237.out (by decide)) (fun _ hk => hk.2) (.int .i64 t247)) (fun _ hk => hk.2) (.int .i64 t248)) (fun _ hk => hk.2) (.slice Ao4520251 t249.length co4520251)) (fun _ hk => hk.2) (.slice Ao25480 t252.length co25480)) (fun _ h_ => by first | exact h_.1 | simp only [h_, ne_eq, not_false_eq_true, and_self]))) (by decide)) hk (fun _ h => h.2)) (fun _ h => h.1)); replace BK232 := mk_ (KeepBut.blk hk (g' := gb232) (o := .cells #[.int .i64 0, .int .i64 0, .slice none 0 0, .slice none 0 0] 59 (0, 0)) (uf_ BK232.out) NB232_0.out (by simp)); have n3_ := mk_ (KeepBut.blk hk (g' := gb237) (o := .cells #[.int .i64 t247, .int .i64 t248, .slice Ao4520251 t249.length co4520251, .slice Ao25480 t252.length co25480] 59 (0, 0)) (by (with_reducible repeat (first | refine bn_ ?_ _ | refine bw_ ?_ | refine ba_ ?_ _)); refine blk_put (cs := #[.int .i64 t247, .int .i64 t248, .slice Ao4520251 t249.length co4520251, .slice Ao27880 x238003_1.length co27880]) ?_ 3 _ rfl; (with_reducible repeat (first | refine bn_ ?_ _ | refine bw_ ?_ | refine ba_ ?_ _)); refine blk_put (cs := #[.int .i64 t247, .int .i64 t248, .slice Ao8480 x238002_1.length co8480, .slice Ao27880 x238003_1.length co27880]) ?_ 2 _ rfl; (with_reducible repeat (first | refine bn_ ?_ _ | refine bw_ ?_ | refine ba_ ?_ _)); refine blk_put (cs := #[.int .i64 t247, .int .i64 x238001_1, .slice Ao8480 x238002_1.length co8480, .slice Ao27880 x238003_1.length co27880]) ?_ 1 _ rfl; (with_reducible repeat (first | refine bn_ ?_ _ | refine bw_ ?_ | refine ba_ ?_ _)); refine blk_put (cs := #[.int .i64 x238000_1, .int .i64 x238001_1, .slice Ao8480 x238002_1.length co8480, .slice Ao27880 x238003_1.length co27880]) ?_ 0 _ rfl; (with_reducible repeat (first | refine bn_ ?_ _ | refine bw_ ?_ | refine ba_ ?_ _)); exact BK237.out) NB237_0.out (by simp)); replace HO246 := mk_ (Kd.R_mono (Kd.R_keep (IsS107.apart (show IsS107 w0 _ g s0_0 t243 from by repeat (first | (with_reducible first | exact HI0.out | apply IsS107.alloc | apply IsS107.drewN | apply IsS107.drew | apply IsS107.set_1 | refine IsS107.far ?_ NB0_232.out _ | refine IsS107.far ?_ NB0_237.out _) | exact HI0.out)) (by (with_reducible repeat (first | apply Kd.R_alloc | apply Kd.R_drewN | apply Kd.R_drew)); exact (Kd.R_mono (Kd.R_far (p := ⟨gb237, 3, none⟩) (Kd.R_far (p := ⟨gb237, 2, none⟩) (Kd.R_far (p := ⟨gb237, 1, none⟩) (Kd.R_far (p := ⟨gb237, 0, none⟩) (Kd.R_types HO246.out BK237.out (by decide)) (fun _ hk => hk.2) (.int .i64 t247)) (fun _ hk => hk.2) (.int .i64 t248)) (fun _ hk => hk.2) (.slice Ao4520251 t249.length co4520251)) (fun _ hk => hk.2) (.slice Ao25480 t252.length co25480)) (fun _ h_ => by first | exact h_.1 | simp only [h_, ne_eq, not_false_eq_true, and_self]))) (by decide)) hk (fun _ h => h.2)) (fun _ h => h.1)); replace HO251 := mk_ (Kd.R_mono (Kd.R_keep (IsS107.apart (show IsS107 w0 _ g s0_0 t243 from by repeat (first | (with_reducible first | exact HI0.out | apply IsS107.alloc | apply IsS107.drewN | apply IsS107.drew | apply IsS107.set_1 | refine IsS107.far ?_ NB0_232.out _ | refine IsS107.far ?_ NB0_237.out _) | exact HI0.out)) (by (with_reducible repeat (first | apply Kd.R_alloc | apply Kd.R_drewN | apply Kd.R_drew)); exact (Kd.R_mono (Kd.R_far (p := ⟨gb237, 3, none⟩) (Kd.R_far (p := ⟨gb237, 2, none⟩) (Kd.R_far (p := ⟨gb237, 1, none⟩) (Kd.R_far (p := ⟨gb237, 0, none⟩) (Kd.R_types HO251.out BK237.out (by decide)) (fun _ hk => hk.2) (.int .i64 t247)) (fun _ hk => hk.2) (.int .i64 t248)) (fun _ hk => hk.2) (.slice Ao4520251 t249.length co4520251)) (fun _ hk => hk.2) (.slice Ao25480 t252.length co25480)) (fun _ h_ => by first | exact h_.1 | simp only [h_, ne_eq, not_false_eq_true, and_self]))) (by decide)) hk (fun _ h => h.2)) (fun _ h => h.1)); replace HO254 := mk_ (Kd.Q_mono (Kd.Q_keep (IsS107.apartQ (show IsS107 w0 _ g s0_0 t243 from by repeat (first | (with_reducible first | exact HI0.out | apply IsS107.alloc | apply IsS107.drewN | apply IsS107.drew | apply IsS107.set_1 | refine IsS107.far ?_ NB0_232.out _ | refine IsS107.far ?_ NB0_237.out _) | exact HI0.out)) (by (with_reducible repeat (first | apply Kd.Q_alloc | apply Kd.Q_drewN | apply Kd.Q_drew)); exact (Kd.Q_mono (Kd.Q_far (p := ⟨gb237, 3, none⟩) (Kd.Q_far (p := ⟨gb237, 2, none⟩) (Kd.Q_far (p := ⟨gb237, 1, none⟩) (Kd.Q_far (p := ⟨gb237, 0, none⟩) (Kd.Q_types HO254.out BK237.out (by decide)) (fun _ hk => hk.2) (.int .i64 t247)) (fun _ hk => hk.2) (.int .i64 t248)) (fun _ hk => hk.2) (.slice Ao4520251 t249.length co4520251)) (fun _ hk => hk.2) (.slice Ao25480 t252.length co25480)) (fun _ h_ => by first | exact h_.1 | simp only [h_, ne_eq, not_false_eq_true, and_self]))) (by decide)) hk (fun _ h => h.2)) (fun _ h => h.1)); replace HK := mk_ (KeepBut.trans (by repeat (first | (with_reducible first | exact HK.out | apply KeepBut.set_ | apply keep_drewN | apply keep_drew | apply keep_alloc | refine keep_far ?_ GW232.out _ | refine keep_far ?_ GW237.out _) | exact HK.out)) hk (.inl rfl)); replace HB := mk_ (hb); replace HI0 := mk_ (hi); replace BK237 := n3_; clear n3_))
   ·go_roundg k1
    case measure => have := HK1.out; omega
    case rel => exact ⟨(wrap64 (x6_1 - 1)), (t256), (t247), (t248), (t249), (t252), (.slice Ao4520251 t249.length co4520251), (.slice Ao25480 t252.length co25480), (by first | rfl | (simp; done) | (simp [*]; done)), H', ⟨by have := HK1.out; omega⟩, ⟨by (with_reducible repeat (first | apply Kd.R_alloc | apply Kd.R_drewN | apply Kd.R_drew)); exact Kd.R_mono HO251.out (fun _ hk => trivial)⟩, ⟨by (with_reducible repeat (first | apply Kd.Q_alloc | apply Kd.Q_drewN | apply Kd.Q_drew)); exact Kd.Q_mono HO254.out (fun _ hk => trivial)⟩, ⟨u_ BK232.out⟩, ⟨u_ BK237.out⟩, ⟨by repeat (first | (with_reducible first | exact HI0.out | apply IsS107.alloc | apply IsS107.drewN | apply IsS107.drew | apply IsS107.set_1 | refine IsS107.far ?_ NB0_232.out _ | refine IsS107.far ?_ NB0_237.out _) | exact HI0.out)⟩, ⟨by repeat (first | (with_reducible first | exact HK.out | apply KeepBut.set_ | apply keep_drewN | apply keep_drew | apply keep_alloc | refine keep_far ?_ GW232.out _ | refine keep_far ?_ GW237.out _) | exact HK.out)⟩, ⟨by repeat (first | (with_reducible first | exact HB.out | apply na_ | apply nn_ | apply nw_ | refine bs_ ?_ (IsS107.ge HI0.out) | refine bs_ ?_ GE232.out | refine bs_ ?_ GE237.out) | exact HB.out)⟩⟩
   ·have n0_ := mk_ (Kd.R_drew HO_238002.out)
    have n1_ := mk_ (Kd.Q_drew HO_238003.out)
    have n2_ := mk_ (Kd.R_drew HO246.out)
    have n3_ := mk_ (Kd.R_drew HO251.out)
    have n4_ := mk_ (Kd.Q_drew HO254.out)
    have n5_ := mk_ (blk_drew BK232.out)
    have n6_ := mk_ (blk_drew BK237.out)
    have n7_ := mk_ (IsS107.drew HI0.out)
    have n8_ := mk_ (keep_drew HK.out)
    have n9_ := mk_ (below_drew1 HB.out)
    clear HO_238002
    clear HO_238003
    clear HO246
    clear HO251
    clear HO254
    clear BK232
    clear BK237
    clear HI0
    clear HK
    clear HB
    have HO_238002 := n0_
    have HO_238003 := n1_
    have HO246 := n2_
    have HO251 := n3_
    have HO254 := n4_
    have BK232 := n5_
    have BK237 := n6_
    have HI0 := n7_
    have HK := n8_
    have HB := n9_
    clear n0_ n1_ n2_ n3_ n4_ n5_ n6_ n7_ n8_ n9_
    refine start_ (n := 8) (S := fun w' => w'.cell? ⟨gb237, 0, none⟩ = some (.int .i64 t247) ∧ w'.cell? ⟨gb237, 1, none⟩ = some (.int .i64 t248) ∧ w'.cell? ⟨gb237, 2, none⟩ = some (.slice Ao4520251 t249.length co4520251) ∧ w'.cell? ⟨gb237, 3, none⟩ = some (.slice Ao25480 t252.length co25480)) (ds := [7]) #[F_, F_, F_, F_, F_, F_, F_, F_] (by kernel_rfl) rfl rfl ⟨(blk_cell BK237.out 0).trans rfl, (blk_cell BK237.out 1).trans rfl, (blk_cell BK237.out 2).trans rfl, (blk_cell BK237.out 3).trans rfl⟩ (fun hHeld => ?_); refine with_tabW spec_l20Ear.tab8 spec_l20Ear.bits8 (fun HT_ HW_ => ?_)
    generalize w29800.drew = w30600 at HO_238002 HO_238003 HO246 HO251 HO254 BK232 BK237 HI0 HK HB hHeld ⊢
    refine pure_ (i := 1) (N := some 40) (v := ?_) (a' := ?_) #[F_, T_, F_, F_, F_, F_, F_, F_] rfl rfl (any_of HT_.out (by kernel_rfl)) (fun _ _ _ h => h) (Or.inl ⟨by rfl, ?_⟩) ?_ ?_
    rotate_left
    ·intro w'
     go_simp
     with_reducible rfl
    rotate_left
    ·simp only [Act.put, la_, lz_, ls_, i64_w, i32_w]
     rfl
    refine take_ (i := 0) (N := some 39) (v := ?_) (a' := ?_) #[T_, T_, F_, F_, F_, F_, F_, F_] rfl rfl (take_ofW HT_.out HW_.out (by kernel_rfl)) (fun _ _ _ h => h) (Or.inl ⟨by rfl, ?_⟩) hHeld ?_ ?_
    rotate_left
    ·rintro w' ⟨s4880, s4881, s4882, s4883⟩
     go_simp
     with_reducible rfl
    rotate_left
    ·simp only [Act.put, la_, lz_, ls_, i64_w, i32_w]
     rfl
    refine one_ (i := 2) (N := some 41) #[T_, T_, T_, F_, F_, F_, F_, F_] rfl rfl (one_of HT_.out (by kernel_rfl)) (by decide) (fun K hK => ?_)
    refine goes_ Try.func46 (by kernel_rfl) rfl #[.pointer (some ⟨g, 0, none⟩), .int .i64 5] (by rfl) rfl rfl (by (try simp only [lm_, lo_, ln_]); try rfl) ?_
    with_reducible refine (spec_l20Rd_pick.calls k1 g s0_0 t256 5 t257 t258 w0 _ ?side1 ?side2 A21.out).mono ?_
    (case side1 => repeat (first | (with_reducible first | exact HI0.out | apply IsS107.alloc | apply IsS107.drewN | apply IsS107.drew | apply IsS107.set_1 | refine IsS107.far ?_ NB0_232.out _ | refine IsS107.far ?_ NB0_237.out _) | exact HI0.out))
    (case side2 => repeat (first | (with_reducible first | exact HB.out | apply na_ | apply nn_ | apply nw_ | refine bs_ ?_ (IsS107.ge HI0.out) | refine bs_ ?_ GE232.out | refine bs_ ?_ GE237.out) | exact HB.out))
    rintro e w30840 ⟨rfl, hi, hb, hk⟩
    refine ⟨_, rfl, ?_⟩
    have n0_ := mk_ (Kd.R_mono (Kd.R_keep (IsS107.apart (show IsS107 w0 _ g s0_0 t256 from by repeat (first | (with_reducible first | exact HI0.out | apply IsS107.alloc | apply IsS107.drewN | apply IsS107.drew | apply IsS107.set_1 | refine IsS107.far ?_ NB0_232.out _ | refine IsS107.far ?_ NB0_237.out _) | exact HI0.out)) (Kd.ur_ HO_238002.out) (by decide)) hk (fun _ h => h.2)) (fun _ h => h.1))
    have n1_ := mk_ (Kd.Q_mono (Kd.Q_keep (IsS107.apartQ (show IsS107 w0 _ g s0_0 t256 from by repeat (first | (with_reducible first | exact HI0.out | apply IsS107.alloc | apply IsS107.drewN | apply IsS107.drew | apply IsS107.set_1 | refine IsS107.far ?_ NB0_232.out _ | refine IsS107.far ?_ NB0_237.out _) | exact HI0.out)) (by (with_reducible repeat (first | apply Kd.Q_alloc | apply Kd.Q_drewN | apply Kd.Q_drew)); exact HO_238003.out) (by decide)) hk (fun _ h => h.2)) (fun _ h => h.1))
    have n2_ := mk_ (KeepBut.blk hk (g' := gb232) (o := .cells #[.int .i64 0, .int .i64 0, .slice none 0 0, .slice none 0 0] 59 (0, 0)) (u_ BK232.out) NB232_0.out (by simp))
    have n3_ := mk_ (KeepBut.blk hk (g' := gb237) (o := .cells #[.int .i64 t247, .int .i64 t248, .slice Ao4520251 t249.length co4520251, .slice Ao25480 t252.length co25480] 59 (0, 0)) (u_ BK237.out) NB237_0.out (by simp))
    have n4_ := mk_ (Kd.R_mono (Kd.R_keep (IsS107.apart (show IsS107 w0 _ g s0_0 t256 from by repeat (first | (with_reducible first | exact HI0.out | apply IsS107.alloc | apply IsS107.drewN | apply IsS107.drew | apply IsS107.set_1 | refine IsS107.far ?_ NB0_232.out _ | refine IsS107.far ?_ NB0_237.out _) | exact HI0.out)) (Kd.ur_ HO246.out) (by decide)) hk (fun _ h => h.2)) (fun _ h => h.1))
    have n5_ := mk_ (Kd.R_mono (Kd.R_keep (IsS107.apart (show IsS107 w0 _ g s0_0 t256 from by repeat (first | (with_reducible first | exact HI0.out | apply IsS107.alloc | apply IsS107.drewN | apply IsS107.drew | apply IsS107.set_1 | refine IsS107.far ?_ NB0_232.out _ | refine IsS107.far ?_ NB0_237.out _) | exact HI0.out)) (Kd.ur_ HO251.out) (by decide)) hk (fun _ h => h.2)) (fun _ h => h.1))
    have n6_ := mk_ (Kd.Q_mono (Kd.Q_keep (IsS107.apartQ (show IsS107 w0 _ g s0_0 t256 from by repeat (first | (with_reducible first | exact HI0.out | apply IsS107.alloc | apply IsS107.drewN | apply IsS107.drew | apply IsS107.set_1 | refine IsS107.far ?_ NB0_232.out _ | refine IsS107.far ?_ NB0_237.out _) | exact HI0.out)) (by (with_reducible repeat (first | apply Kd.Q_alloc | apply Kd.Q_drewN | apply Kd.Q_drew)); exact HO254.out) (by decide)) hk (fun _ h => h.2)) (fun _ h => h.1))
    have n7_ := mk_ (KeepBut.trans (by repeat (first | (with_reducible first | exact HK.out | apply KeepBut.set_ | apply keep_drewN | apply keep_drew | apply keep_alloc | refine keep_far ?_ GW232.out _ | refine keep_far ?_ GW237.out _) | exact HK.out)) hk (.inl rfl))
    have n8_ := mk_ (hb)
    have n9_ := mk_ (hi)
    clear HO_238002
    clear HO_238003
    clear BK232
    clear BK237
    clear HO246
    clear HO251
    clear HO254
    clear HK
    clear HB
    clear HI0
    have HO_238002 := n0_
    have HO_238003 := n1_
    have BK232 := n2_
    have BK237 := n3_
    have HO246 := n4_
    have HO251 := n5_
    have HO254 := n6_
    have HK := n7_
    have HB := n8_
    have HI0 := n9_
    clear n0_ n1_ n2_ n3_ n4_ n5_ n6_ n7_ n8_ n9_
    (try clear hb)
    (try clear hb2)
    (try clear hk)
    (try clear hi)
    refine hK.out _ _ ⟨(blk_cell BK237.out 0).trans rfl, (blk_cell BK237.out 1).trans rfl, (blk_cell BK237.out 2).trans rfl, (blk_cell BK237.out 3).trans rfl⟩ (fun hHeld => ?_)
    clear hK K
    refine norm_ (a' := ?_) ?_ ?_
    rotate_left
    ·show Act.put _ (some 41) _ = _
     simp only [Act.put, la_, lz_, ls_, i64_w, i32_w]
     rfl
    refine one_ (i := 3) (N := some 42) #[T_, T_, T_, T_, F_, F_, F_, F_] rfl rfl (one_of HT_.out (by kernel_rfl)) (by decide) (fun K hK => ?_)
    refine goes_ Try.func113 (by kernel_rfl) rfl #[.agg #[.int .i64 t247, .int .i64 t248, .slice Ao4520251 t249.length co4520251, .slice Ao25480 t252.length co25480], .int .i64 t257] (by rfl) rfl rfl (by (try simp only [lm_, lo_, ln_]); try rfl) ?_
    with_reducible refine (spec_EarRead.calls k1 t247 t248 _ _ t249 _ _ t252 t257 t259 t260 t261 t264 t267 _ ?side1 ?side2 ?side3 ?side4 A22.out).mono ?_
    (case side1 => repeat (first | exact (Kd.R_reads' HO251.out).2.2 | (with_reducible refine Kd.C_alloc ?_ _) | (with_reducible refine Kd.C_drewN ?_ _) | (with_reducible refine Kd.C_drew ?_)))
    (case side2 => exact (Kd.R_reads' HO251.out).2.1)
    (case side3 => repeat (first | exact (Kd.Q_reads' HO254.out).2.2 | (with_reducible refine Kd.C_alloc ?_ _) | (with_reducible refine Kd.C_drewN ?_ _) | (with_reducible refine Kd.C_drew ?_)))
    (case side4 => exact (Kd.Q_reads' HO254.out).2.1)
    rintro e w32440 ⟨v32441, v32442, v32443, rfl, ho4880, ho4881, ho4882, hb⟩
    refine ⟨_, rfl, ?_⟩
    have n0_ := mk_ (Kd.R_mono (Kd.R_told (Kd.R_told (Kd.R_old (Kd.ur_ HO_238002.out) hb) (Kd.R_base ho4880)) (Kd.R_base ho4882)) (fun _ h_ => by first | exact h_.1 | simp only [h_, ne_eq, not_false_eq_true, and_self]))
    have n1_ := mk_ (Kd.Q_elder' (by (with_reducible repeat (first | apply Kd.Q_alloc | apply Kd.Q_drewN | apply Kd.Q_drew)); exact HO_238003.out) (Kd.R_base ho4881) hb)
    have n2_ := mk_ (Kd.R_mono (Kd.R_told (Kd.R_told (Kd.R_old (Kd.ur_ HO246.out) hb) (Kd.R_base ho4880)) (Kd.R_base ho4882)) (fun _ h_ => by first | exact h_.1 | simp only [h_, ne_eq, not_false_eq_true, and_self]))
    have n3_ := mk_ (Kd.R_mono (Kd.R_told (Kd.R_told (Kd.R_old (Kd.ur_ HO251.out) hb) (Kd.R_base ho4880)) (Kd.R_base ho4882)) (fun _ h_ => by first | exact h_.1 | simp only [h_, ne_eq, not_false_eq_true, and_self]))
    have n4_ := mk_ (Kd.Q_elder' (by (with_reducible repeat (first | apply Kd.Q_alloc | apply Kd.Q_drewN | apply Kd.Q_drew)); exact HO254.out) (Kd.R_base ho4881) hb)
    have n5_ := mk_ (Kd.R_lower (Kd.R_new' (Kd.R_new' (Kd.R_new' ho4880 (Kd.R_lt (Kd.ur_ HO_238002.out))) (Kd.R_lt (Kd.ur_ HO246.out))) (Kd.R_lt (Kd.ur_ HO251.out))) (keep_size (w := w) (g := g) (row := none) (by repeat (first | (with_reducible first | exact HK.out | apply KeepBut.set_ | apply keep_drewN | apply keep_drew | apply keep_alloc | refine keep_far ?_ GW232.out _ | refine keep_far ?_ GW237.out _) | exact HK.out))))
    have n6_ := mk_ (Kd.R_lower (Kd.R_new' (Kd.R_new' ho4881 (Kd.Q_lt (by (with_reducible repeat (first | apply Kd.Q_alloc | apply Kd.Q_drewN | apply Kd.Q_drew)); exact HO_238003.out))) (Kd.Q_lt (by (with_reducible repeat (first | apply Kd.Q_alloc | apply Kd.Q_drewN | apply Kd.Q_drew)); exact HO254.out))) (keep_size (w := w) (g := g) (row := none) (by repeat (first | (with_reducible first | exact HK.out | apply KeepBut.set_ | apply keep_drewN | apply keep_drew | apply keep_alloc | refine keep_far ?_ GW232.out _ | refine keep_far ?_ GW237.out _) | exact HK.out))))
    have n7_ := mk_ (Kd.R_lower (Kd.R_new' (Kd.R_new' (Kd.R_new' ho4882 (Kd.R_lt (Kd.ur_ HO_238002.out))) (Kd.R_lt (Kd.ur_ HO246.out))) (Kd.R_lt (Kd.ur_ HO251.out))) (keep_size (w := w) (g := g) (row := none) (by repeat (first | (with_reducible first | exact HK.out | apply KeepBut.set_ | apply keep_drewN | apply keep_drew | apply keep_alloc | refine keep_far ?_ GW232.out _ | refine keep_far ?_ GW237.out _) | exact HK.out))))
    have n8_ := mk_ (blk_below (u_ BK232.out) hb)
    have n9_ := mk_ (blk_below (u_ BK237.out) hb)
    have n10_ := mk_ (IsS107.below (by repeat (first | (with_reducible first | exact HI0.out | apply IsS107.alloc | apply IsS107.drewN | apply IsS107.drew | apply IsS107.set_1 | refine IsS107.far ?_ NB0_232.out _ | refine IsS107.far ?_ NB0_237.out _) | exact HI0.out)) hb)
    have n11_ := mk_ (KeepBut.trans (by repeat (first | (with_reducible first | exact HK.out | apply KeepBut.set_ | apply keep_drewN | apply keep_drew | apply keep_alloc | refine keep_far ?_ GW232.out _ | refine keep_far ?_ GW237.out _) | exact HK.out)) (KeepBut.of_below hb g none) (.inl rfl))
    have n12_ := mk_ (below_step (by repeat (first | (with_reducible first | exact HB.out | apply na_ | apply nn_ | apply nw_ | refine bs_ ?_ (IsS107.ge HI0.out) | refine bs_ ?_ GE232.out | refine bs_ ?_ GE237.out) | exact HB.out)) hb)
    clear HO_238002
    clear HO_238003
    clear HO246
    clear HO251
    clear HO254
    clear BK232
    clear BK237
    clear HI0
    clear HK
    clear HB
    have HO_238002 := n0_
    have HO_238003 := n1_
    have HO246 := n2_
    have HO251 := n3_
    have HO254 := n4_
    have HO263 := n5_
    have HO266 := n6_
    have HO269 := n7_
    have BK232 := n8_
    have BK237 := n9_
    have HI0 := n10_
    have HK := n11_
    have HB := n12_
    clear n0_ n1_ n2_ n3_ n4_ n5_ n6_ n7_ n8_ n9_ n10_ n11_ n12_
    (try clear hb)
    (try clear hb2)
    (try clear hk)
    (try clear hi)
    (try clear ho4880)
    (try clear ho4881)
    (try clear ho4882)
    obtain ⟨Ao8290263, co8290263, eo8290263⟩ := Kd.R_slice HO263.out
    (first | subst eo8290263 | (injection eo8290263 with f1_ f2_ f3_; have f4_ := f1_.symm; have f5_ := f3_.symm; clear f1_ f2_ f3_; subst f4_; subst f5_))
    obtain ⟨Ao8310266, co8310266, eo8310266⟩ := Kd.R_slice HO266.out
    (first | subst eo8310266 | (injection eo8310266 with f1_ f2_ f3_; have f4_ := f1_.symm; have f5_ := f3_.symm; clear f1_ f2_ f3_; subst f4_; subst f5_))
    refine hK.out _ _ ⟨(blk_cell BK237.out 0).trans rfl, (blk_cell BK237.out 1).trans rfl, (blk_cell BK237.out 2).trans rfl, (blk_cell BK237.out 3).trans rfl⟩ (fun hHeld => ?_)
    clear hK K
    refine norm_ (a' := ?_) ?_ ?_
    rotate_left
    ·show Act.put _ (some 42) _ = _
     simp only [Act.put, la_, lz_, ls_, i64_w, i32_w]
     rfl
    refine pure_ (i := 4) (N := some 38) (v := ?_) (a' := ?_) #[T_, T_, T_, T_, T_, F_, F_, F_] rfl rfl (any_of HT_.out (by kernel_rfl)) (fun _ _ _ h => h) (Or.inl ⟨by rfl, ?_⟩) ?_ ?_
    rotate_left
    ·intro w'
     go_simp
     with_reducible rfl
    rotate_left
    ·simp only [Act.put, la_, lz_, ls_, i64_w, i32_w]
     rfl
    refine pure_ (i := 5) (N := some 43) (v := ?_) (a' := ?_) #[T_, T_, T_, T_, T_, T_, F_, F_] rfl rfl (any_of HT_.out (by kernel_rfl)) (fun _ _ _ h => h) (Or.inl ⟨by rfl, ?_⟩) ?_ ?_
    rotate_left
    ·intro w'
     go_simp
     with_reducible rfl
    rotate_left
    ·simp only [Act.put, la_, lz_, ls_, i64_w, i32_w]
     rfl
    refine pure_ (i := 6) (N := some 44) (v := ?_) (a' := ?_) #[T_, T_, T_, T_, T_, T_, T_, F_] rfl rfl (any_of HT_.out (by kernel_rfl)) (fun _ _ _ h => h) (Or.inl ⟨by rfl, ?_⟩) ?_ ?_
    rotate_left
    ·intro w'
     go_simp
     with_reducible rfl
    rotate_left
    ·simp only [Act.put, la_, lz_, ls_, i64_w, i32_w]
     rfl
    refine last_ (i := 7) (N := none) #[T_, T_, T_, T_, T_, T_, T_, T_] rfl rfl (one_of HT_.out (by kernel_rfl)) (by decide) (fun K hK => ?_)
    have hs34520 : w32440.cell? ⟨gb237, 0, none⟩ = some (.int .i64 t247) := (blk_cell BK237.out 0).trans rfl
    have hfs34520 := blk_frozen BK237.out 0
    have hns34520_0 := NB232_237.out
    have hms34520_0 := NB237_232.out
    have hs34560 : w32440.cell? ⟨gb237, 1, none⟩ = some (.int .i64 t248) := (blk_cell BK237.out 1).trans rfl
    have hfs34560 := blk_frozen BK237.out 1
    have hns34560_0 := NB232_237.out
    have hms34560_0 := NB237_232.out
    have hs34600 : w32440.cell? ⟨gb237, 2, none⟩ = some (.slice Ao4520251 t249.length co4520251) := (blk_cell BK237.out 2).trans rfl
    have hfs34600 := blk_frozen BK237.out 2
    have hns34600_0 := NB232_237.out
    have hms34600_0 := NB237_232.out
    have hs34640 : w32440.cell? ⟨gb237, 3, none⟩ = some (.slice Ao25480 t252.length co25480) := (blk_cell BK237.out 3).trans rfl
    have hfs34640 := blk_frozen BK237.out 3
    have hns34640_0 := NB232_237.out
    have hms34640_0 := NB237_232.out
    refine skip_ (w1 := ?_) (by rfl) rfl ?_ ?_
    rotate_left
    ·go_simp
     rfl
    refine hK.out _ _ ?_
    clear hK K
    refine done_ (done_of HT_.out (by kernel_rfl)) ?_
    try go_wp2
    go_roundg k1
    case measure => have := HK1.out; omega
    case rel => exact ⟨(wrap64 (x6_1 - 1)), (t258), (t259), (t260), (t261), (t264), (.slice Ao8290263 t261.length co8290263), (.slice Ao8310266 t264.length co8310266), (by first | rfl | (simp; done) | (simp [*]; done)), H', ⟨by have := HK1.out; omega⟩, ⟨by (with_reducible repeat (first | apply Kd.R_alloc | apply Kd.R_drewN | apply Kd.R_drew)); exact Kd.R_mono (Kd.R_far (p := ⟨gb237, 3, none⟩) (Kd.R_far (p := ⟨gb237, 2, none⟩) (Kd.R_far (p := ⟨gb237, 1, none⟩) (Kd.R_far (p := ⟨gb237, 0, none⟩) (Kd.R_types HO263.out BK237.out (by decide)) (fun _ hk => hk.2) (.int .i64 t259)) (fun _ hk => hk.2) (.int .i64 t260)) (fun _ hk => hk.2) (.slice Ao8290263 t261.length co8290263)) (fun _ hk => hk.2) (.slice Ao8310266 t264.length co8310266)) (fun _ hk => trivial)⟩, ⟨Kd.Q_of_R (by (with_reducible repeat (first | apply Kd.R_alloc | apply Kd.R_drewN | apply Kd.R_drew)); exact Kd.R_mono (Kd.R_far (p := ⟨gb237, 3, none⟩) (Kd.R_far (p := ⟨gb237, 2, none⟩) (Kd.R_far (p := ⟨gb237, 1, none⟩) (Kd.R_far (p := ⟨gb237, 0, none⟩) (Kd.R_types HO266.out BK237.out (by decide)) (fun _ hk => hk.2) (.int .i64 t259)) (fun _ hk => hk.2) (.int .i64 t260)) (fun _ hk => hk.2) (.slice Ao8290263 t261.length co8290263)) (fun _ hk => hk.2) (.slice Ao8310266 t264.length co8310266)) (fun _ hk => trivial))⟩, ⟨uf_ BK232.out⟩, ⟨by (with_reducible repeat (first | refine bn_ ?_ _ | refine bw_ ?_ | refine ba_ ?_ _)); refine blk_put (cs := #[.int .i64 t259, .int .i64 t260, .slice Ao8290263 t261.length co8290263, .slice Ao25480 t252.length co25480]) ?_ 3 _ rfl; (with_reducible repeat (first | refine bn_ ?_ _ | refine bw_ ?_ | refine ba_ ?_ _)); refine blk_put (cs := #[.int .i64 t259, .int .i64 t260, .slice Ao4520251 t249.length co4520251, .slice Ao25480 t252.length co25480]) ?_ 2 _ rfl; (with_reducible repeat (first | refine bn_ ?_ _ | refine bw_ ?_ | refine ba_ ?_ _)); refine blk_put (cs := #[.int .i64 t259, .int .i64 t248, .slice Ao4520251 t249.length co4520251, .slice Ao25480 t252.length co25480]) ?_ 1 _ rfl; (with_reducible repeat (first | refine bn_ ?_ _ | refine bw_ ?_ | refine ba_ ?_ _)); refine blk_put (cs := #[.int .i64 t247, .int .i64 t248, .slice Ao4520251 t249.length co4520251, .slice Ao25480 t252.length co25480]) ?_ 0 _ rfl; (with_reducible repeat (first | refine bn_ ?_ _ | refine bw_ ?_ | refine ba_ ?_ _)); exact BK237.out⟩, ⟨by repeat (first | (with_reducible first | exact HI0.out | apply IsS107.alloc | apply IsS107.drewN | apply IsS107.drew | apply IsS107.set_1 | refine IsS107.far ?_ NB0_232.out _ | refine IsS107.far ?_ NB0_237.out _) | exact HI0.out)⟩, ⟨by repeat (first | (with_reducible first | exact HK.out | apply KeepBut.set_ | apply keep_drewN | apply keep_drew | apply keep_alloc | refine keep_far ?_ GW232.out _ | refine keep_far ?_ GW237.out _) | exact HK.out)⟩, ⟨by repeat (first | (with_reducible first | exact HB.out | apply na_ | apply nn_ | apply nw_ | refine bs_ ?_ (IsS107.ge HI0.out) | refine bs_ ?_ GE232.out | refine bs_ ?_ GE237.out) | exact HB.out)⟩⟩

end Go.Proofs.Ytkkibccnpkbbjab.MFnEarOk
