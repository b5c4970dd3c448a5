/- Functions that the law FnMouthOk reaches, each with the proof that the machine's call comes to just its answer; no conditions but those that each theorem states. Printed by a program of this session over the kit's print. -/
import Derived.Test.YtfcocnhkimbpbaaMFnMouthOkx0
import Derived.Test.YtfcocnhkimbpbaaMFnMouthOkx2
import Derived.Test.YtfcocnhkimbpbaaMFnMouthOkx3
import Derived.Test.YtfcocnhkimbpbaaMFnMouthOkx4
import Derived.Test.YtfcocnhkimbpbaaMFnMouthOkx5
import Derived.Test.YtfcocnhkimbpbaaMFnMouthOkx6
namespace Go.Proofs.Ytfcocnhkimbpbaa.MFnMouthOk
open Go.RowKit Go.Proofs.YtfcocnhkimbpbaaV.PrintWords Go.Proofs.YtfcocnhkimbpbaaV.PrintLast Go.Proofs.YtfcocnhkimbpbaaV.PrintMore
attribute [local go_sem] max2_int min2_int max_two min_two max_three min_three max_four min_four   -- for this text's walks alone
set_option linter.unusedVariables false
set_option linter.unusedSimpArgs false

/-! ### spec_l20Mouth: function 55 -/
def spec_l20Mouth.l0 : Nat → Int → Int → List Int → Int → Int → List Int → Int → Int → List (S72) → Option (Int × List Int × Int × Int × (List (S72)) × Int)
 | 0, _, _, _, _, _, _, _, _, _ => none
 | k + 1, x1, x6, x1000, x1001, x236000, x236001, x236002, x236003, x236004 => if x6 > 0 then ((spec_l20Rd_pick.f k x1000 x1001 4).bind fun bt238 => (if bt238.1 = 0 then ((spec_l20Rd_pick.f k x1000 bt238.2 9).bind fun bt240 => ((spec_l20Heard.f k (wrap64 (x236000 + (x236001.length : Int))) bt240.1).bind fun t242 => ((spec_MouthWrite.f k x236000 x236001 x236002 x236003 x236004 t242).bind fun bt245 => (spec_l20Mouth.l0 k x1 (wrap64 (x6 - 1)) x1000 bt240.2 bt245.1 bt245.2.1 bt245.2.2.1 bt245.2.2.2.1 bt245.2.2.2.2.1)))) else (if bt238.1 = 1 then ((spec_l20Rd_pick.f k x1000 bt238.2 (wrap64 (x236002 + 1))).bind fun bt255 => ((spec_l20Rd_pick.f k x1000 bt255.2 30).bind fun bt257 => ((spec_l20Rd_pick.f k x1000 bt257.2 4).bind fun bt259 => ((spec_l20Rd_pick.f k x1000 bt259.2 6).bind fun bt261 => ((spec_l20Rd_pick.f k x1000 bt261.2 4).bind fun bt263 => ((spec_l20Rd_pick.f k x1000 bt263.2 9).bind fun bt265 => ((spec_MouthHear.f k x236000 x236001 x236002 x236003 x236004 (wrap64 (x236000 + bt255.1)) bt257.1 (([(⟨wrap64 ((wrap64 ((wrap64 (x236000 + bt255.1)) + 1)) + bt259.1), wrap64 ((wrap64 ((wrap64 (x236000 + bt255.1)) + 2)) + bt261.1)⟩ : S72), (⟨wrap64 ((wrap64 ((wrap64 (x236000 + bt255.1)) + 5)) + bt263.1), wrap64 ((wrap64 ((wrap64 (x236000 + bt255.1)) + 6)) + bt265.1)⟩ : S72)] : List (S72)))).bind fun bt270 => (spec_l20Mouth.l0 k x1 (wrap64 (x6 - 1)) x1000 bt265.2 bt270.1 bt270.2.1 bt270.2.2.1 bt270.2.2.2.1 bt270.2.2.2.2.1)))))))) else ((spec_l20Rd_pick.f k x1000 bt238.2 8).bind fun bt280 => ((spec_MouthNext.f k x236000 x236001 x236002 x236003 x236004 (wrap64 (1 + bt280.1))).bind fun bt282 => (spec_l20Mouth.l0 k x1 (wrap64 (x6 - 1)) x1000 bt280.2 bt282.1 bt282.2.1 bt282.2.2.1 bt282.2.2.2.1 bt282.2.2.2.2.1)))))) else ((spec_l20Rd_odd.f k x1000 x1001 x1).bind fun bt295 => (if bt295.1 = true then ((spec_l20Rd_pick.f k x1000 bt295.2 4).bind fun bt297 => (if bt297.1 = 0 then ((spec_l20Rd_pick.f k x1000 bt297.2 40).bind fun bt299 => (some (x236000, x236001, wrap64 (bt299.1 - 1), x236003, x236004, bt299.2))) else (if bt297.1 = 1 then ((spec_l20Rd_pick.f k x1000 bt297.2 2).bind fun bt301 => (some (x236000, x236001, x236002, wrap64 (256 - (wrap64 (bt301.1 * 300))), x236004, bt301.2))) else (if bt297.1 = 2 then ((spec_l20Rd_pick.f k x1000 bt297.2 9).bind fun bt303 => ((spec_l20Rd_pick.f k x1000 bt303.2 12).bind fun bt305 => (if x236004.length < 8796093022208 then (some (x236000, x236001, x236002, x236003, (x236004 ++ [(⟨wrap64 (x236000 + bt303.1), wrap64 (x236000 + bt305.1)⟩ : S72)]), bt305.2)) else (none)))) else (if 33 ≤ 281474976710656 then (some (x236000, (List.replicate 33 0), x236002, x236003, x236004, bt297.2)) else (none)))))) else (some (x236000, x236001, x236002, x236003, x236004, bt295.2))))
def spec_l20Mouth.f (k : Nat) (s0_0 : List Int) (s0_1 : Int) (a1 : Int) : Option (Int × List Int × Int × Int × (List (S72)) × Int) := (spec_l20Rd_pick.f k s0_0 s0_1 3).bind fun bt231 => ((spec_l20Rd_pick.f k s0_0 bt231.2 30).bind fun bt233 => ((spec_l20Rd_pick.f k s0_0 bt233.2 9).bind fun bt236 => (spec_l20Mouth.l0 k a1 bt236.1 s0_0 bt236.2 (wrap64 (100 + (wrap64 (bt231.1 * 40)))) ([] : List Int) 0 bt233.1 ([] : List (S72)))))
theorem spec_l20Mouth.mono_l : ∀ k, (∀ y0 y1 y2 y3 y4 y5 y6 y7 y8, LeO (spec_l20Mouth.l0 k y0 y1 y2 y3 y4 y5 y6 y7 y8) (spec_l20Mouth.l0 (k + 1) y0 y1 y2 y3 y4 y5 y6 y7 y8))
 | 0 => fun _ _ _ _ _ _ _ _ _ r h => by simp [spec_l20Mouth.l0] at h
 | k + 1 => by
  have ih0 := spec_l20Mouth.mono_l k
  ·intro y0 y1 y2 y3 y4 y5 y6 y7 y8
   unfold spec_l20Mouth.l0
   repeat' first
   | (with_reducible exact ih0 _ _ _ _ _ _ _ _ _)
   | (with_reducible exact spec_MouthHear.mono _ _ _ _ _ _ _ _ _)
   | (with_reducible exact spec_MouthNext.mono _ _ _ _ _ _ _)
   | (with_reducible exact spec_MouthWrite.mono _ _ _ _ _ _ _)
   | (with_reducible exact spec_l20Heard.mono _ _ _)
   | (with_reducible exact spec_l20Rd_odd.mono _ _ _ _)
   | (with_reducible exact spec_l20Rd_pick.mono _ _ _ _)
   | (with_reducible exact LeO.refl _)
   | (with_reducible exact LeO.none _)
   | (with_reducible refine LeO.ite ?_ ?_)
   | (with_reducible refine LeO.bind ?_ (fun _ => ?_))
   | exact ih0 _ _ _ _ _ _ _ _ _
   | exact spec_MouthHear.mono _ _ _ _ _ _ _ _ _
   | exact spec_MouthNext.mono _ _ _ _ _ _ _
   | exact spec_MouthWrite.mono _ _ _ _ _ _ _
   | exact spec_l20Heard.mono _ _ _
   | exact spec_l20Rd_odd.mono _ _ _ _
   | exact spec_l20Rd_pick.mono _ _ _ _
   | exact LeO.none _
   | refine LeO.ite ?_ ?_
   | refine LeO.bind ?_ (fun _ => ?_)
theorem spec_l20Mouth.mono : ∀ a0 a1 a2 k, LeO (spec_l20Mouth.f k a0 a1 a2) (spec_l20Mouth.f (k + 1) a0 a1 a2) := by
 intro a0 a1 a2 k
 have ih0 := spec_l20Mouth.mono_l k
 unfold spec_l20Mouth.f
 repeat' first
   | (with_reducible exact ih0 _ _ _ _ _ _ _ _ _)
   | (with_reducible exact spec_MouthHear.mono _ _ _ _ _ _ _ _ _)
   | (with_reducible exact spec_MouthNext.mono _ _ _ _ _ _ _)
   | (with_reducible exact spec_MouthWrite.mono _ _ _ _ _ _ _)
   | (with_reducible exact spec_l20Heard.mono _ _ _)
   | (with_reducible exact spec_l20Rd_odd.mono _ _ _ _)
   | (with_reducible exact spec_l20Rd_pick.mono _ _ _ _)
   | (with_reducible exact LeO.refl _)
   | (with_reducible exact LeO.none _)
   | (with_reducible refine LeO.ite ?_ ?_)
   | (with_reducible refine LeO.bind ?_ (fun _ => ?_))
   | exact ih0 _ _ _ _ _ _ _ _ _
   | exact spec_MouthHear.mono _ _ _ _ _ _ _ _ _
   | exact spec_MouthNext.mono _ _ _ _ _ _ _
   | exact spec_MouthWrite.mono _ _ _ _ _ _ _
   | exact spec_l20Heard.mono _ _ _
   | exact spec_l20Rd_odd.mono _ _ _ _
   | exact spec_l20Rd_pick.mono _ _ _ _
   | exact LeO.none _
   | refine LeO.ite ?_ ?_
   | refine LeO.bind ?_ (fun _ => ?_)
def spec_l20Mouth.T6 : Bool × List (List Nat × List Nat) := (true, [([], []), ([], []), ([1], [1]), ([2], [2]), ([0, 3, 2], [0, 3]), ([4], [4]), ([5], [5]), ([5], [5]), ([5], [5]), ([6, 4, 0, 1, 2, 3, 4, 5, 6], [6])])
def spec_l20Mouth.B6 : List Nat := [0, 0, 2, 6, 15, 31, 63, 63, 63, 127]
theorem spec_l20Mouth.tab6 : rtab .any (opsOf Try.f55 6) = spec_l20Mouth.T6 := by kernel_rfl
theorem spec_l20Mouth.bits6 : waitsOk spec_l20Mouth.T6.2 spec_l20Mouth.B6 = true := by kernel_rfl
def spec_l20Mouth.T8 : Bool × List (List Nat × List Nat) := (true, [([], []), ([], []), ([1], [1]), ([], []), ([3], [3]), ([4], [4]), ([2, 5], [2, 5]), ([], []), ([7], [7]), ([6, 8, 8], [6, 8]), ([0, 9, 9], [0, 9]), ([10], [10]), ([11], [11]), ([11], [11]), ([12, 10, 0, 1, 2, 3, 4, 5, 6, 7, 8, 9, 10, 11, 12], [12])])
def spec_l20Mouth.B8 : List Nat := [0, 0, 2, 0, 8, 24, 62, 0, 128, 510, 1023, 2047, 4095, 4095, 8191]
theorem spec_l20Mouth.tab8 : rtab .any (opsOf Try.f55 8) = spec_l20Mouth.T8 := by kernel_rfl
theorem spec_l20Mouth.bits8 : waitsOk spec_l20Mouth.T8.2 spec_l20Mouth.B8 = true := by kernel_rfl
def spec_l20Mouth.T10 : Bool × List (List Nat × List Nat) := (true, [([], []), ([0], [0]), ([], []), ([], []), ([3], [3]), ([4], [4]), ([2, 5], [2, 5]), ([1, 6], [1, 6]), ([7, 6, 0, 1, 2, 3, 4, 5, 6, 7], [7])])
def spec_l20Mouth.B10 : List Nat := [0, 1, 0, 0, 8, 24, 60, 127, 255]
theorem spec_l20Mouth.tab10 : rtab .any (opsOf Try.f55 10) = spec_l20Mouth.T10 := by kernel_rfl
theorem spec_l20Mouth.bits10 : waitsOk spec_l20Mouth.T10.2 spec_l20Mouth.B10 = true := by kernel_rfl
def spec_l20Mouth.T11 : Bool × List (List Nat × List Nat) := (true, [([], []), ([], []), ([], []), ([2], [2]), ([], []), ([4], [4]), ([], []), ([6, 3], [6]), ([5, 7], [5, 7]), ([], []), ([9], [9]), ([], []), ([11, 7], [11]), ([10, 12], [10, 12]), ([8, 13], [8, 13]), ([], []), ([15], [15]), ([], []), ([17, 12], [17]), ([16, 18], [16, 18]), ([], []), ([20], [20]), ([], []), ([22, 18], [22]), ([21, 23], [21, 23]), ([19, 24], [19, 24]), ([14, 25], [14, 25]), ([0, 1, 3, 26, 23], [0, 1, 3, 26]), ([27], [27]), ([28], [28]), ([28], [28]), ([29, 27, 0, 1, 2, 3, 4, 5, 6, 7, 8, 9, 10, 11, 12, 13, 14, 15, 16, 17, 18, 19, 20, 21, 22, 23, 24, 25, 26, 27, 28, 29], [29])])
def spec_l20Mouth.B11 : List Nat := [0, 0, 0, 4, 0, 16, 0, 76, 252, 0, 512, 0, 2252, 7884, 16380, 0, 32768, 0, 137420, 497868, 0, 1048576, 0, 4593868, 16128204, 33528012, 67108860, 134217727, 268435455, 536870911, 536870911, 1073741823]
theorem spec_l20Mouth.tab11 : rtab .any (opsOf Try.f55 11) = spec_l20Mouth.T11 := by kernel_rfl
theorem spec_l20Mouth.bits11 : waitsOk spec_l20Mouth.T11.2 spec_l20Mouth.B11 = true := by kernel_rfl
def spec_l20Mouth.T20 : Bool × List (List Nat × List Nat) := (true, [([], []), ([0], [0]), ([], []), ([2], [2]), ([], []), ([4], [4]), ([3, 5], [3, 5]), ([], []), ([7], [7]), ([], []), ([9, 5], [9]), ([8, 10], [8, 10]), ([6, 11], [6, 11]), ([12], [12]), ([1, 13, 10], [1, 13]), ([0, 1, 2, 3, 4, 5, 6, 7, 8, 9, 10, 11, 12, 13, 14], []), ([15, 14, 14, 0, 1, 2, 3, 4, 5, 6, 7, 8, 9, 10, 11, 12, 13, 14], [14, 15])])
def spec_l20Mouth.B20 : List Nat := [0, 1, 0, 4, 0, 16, 60, 0, 128, 0, 560, 1968, 4092, 8188, 16383, 32767, 65535]
theorem spec_l20Mouth.tab20 : rtab .any (opsOf Try.f55 20) = spec_l20Mouth.T20 := by kernel_rfl
theorem spec_l20Mouth.bits20 : waitsOk spec_l20Mouth.T20.2 spec_l20Mouth.B20 = true := by kernel_rfl
set_option maxHeartbeats 8000000 in
set_option maxRecDepth 100000 in
theorem spec_l20Mouth.calls (k : Nat) (g : Nat) (s0_0 : List Int) (s0_1 : Int) (a1 : Int) (r1 : Int) (r2 : List Int) (r3 : Int) (r4 : Int) (r5 : List (S72)) (r6 : Int) (w0 w : World) (hI : IsS82 w0 w g s0_0 s0_1) (hB : Below w0.heap.size w0 w) (h : spec_l20Mouth.f k s0_0 s0_1 a1 = some (r1, r2, r3, r4, r5, r6)) :
  Calls Try.prog 55 #[.pointer (some ⟨g, 0, none⟩), .int .i64 a1] w fun e w' => ∃ v1_ v4_ : Value, e = .returned (.agg #[.int .i64 r1, v1_, .int .i64 r3, .int .i64 r4, v4_]) ∧ Kd.R (Kd.int .u8) 5 w' w.heap.size (fun _ => True) v1_ r2 ∧ Kd.R k72 72 w' w.heap.size (fun _ => True) v4_ r5 ∧ IsS82 w0 w' g s0_0 r6 ∧ Below w0.heap.size w0 w' ∧ KeepBut w w' g none := by
 have hu51 := Try.underlying51
 have hu72 := Try.underlying72
 have HI0 := mk_ hI
 have HK := mk_ (KeepBut.refl w g none)
 have HL := mk_ hB.size
 clear hI
 have HW0 := mk_ hB.size
 have HB := mk_ hB
 clear hB
 have H : ((spec_l20Rd_pick.f k s0_0 s0_1 3).bind fun bt231 => ((spec_l20Rd_pick.f k s0_0 bt231.2 30).bind fun bt233 => ((spec_l20Rd_pick.f k s0_0 bt233.2 9).bind fun bt236 => (spec_l20Mouth.l0 k a1 bt236.1 s0_0 bt236.2 (wrap64 (100 + (wrap64 (bt231.1 * 40)))) ([] : List Int) 0 bt233.1 ([] : List (S72)))))) = some (r1, r2, r3, r4, r5, r6) := h
 clear h
 replace H := Option.bind_eq_some_iff.mp H
 obtain ⟨⟨t231, t232⟩, A30, H⟩ := H
 replace H : ((spec_l20Rd_pick.f k s0_0 t232 30).bind fun bt233 => ((spec_l20Rd_pick.f k s0_0 bt233.2 9).bind fun bt236 => (spec_l20Mouth.l0 k a1 bt236.1 s0_0 bt236.2 (wrap64 (100 + (wrap64 (t231 * 40)))) ([] : List Int) 0 bt233.1 ([] : List (S72))))) = some (r1, r2, r3, r4, r5, r6) := H
 have A3 := mk_ A30
 clear A30
 replace H := Option.bind_eq_some_iff.mp H
 obtain ⟨⟨t233, t234⟩, A40, H⟩ := H
 replace H : ((spec_l20Rd_pick.f k s0_0 t234 9).bind fun bt236 => (spec_l20Mouth.l0 k a1 bt236.1 s0_0 bt236.2 (wrap64 (100 + (wrap64 (t231 * 40)))) ([] : List Int) 0 t233 ([] : List (S72)))) = some (r1, r2, r3, r4, r5, r6) := H
 have A4 := mk_ A40
 clear A40
 replace H := Option.bind_eq_some_iff.mp H
 obtain ⟨⟨t236, t237⟩, A50, H⟩ := H
 replace H : (spec_l20Mouth.l0 k a1 t236 s0_0 t237 (wrap64 (100 + (wrap64 (t231 * 40)))) ([] : List Int) 0 t233 ([] : List (S72))) = some (r1, r2, r3, r4, r5, r6) := H
 have A5 := mk_ A50
 clear A50
 have H' := mk_ H
 clear H
 go_enter Try.func55, Try.ntmps55
 go_wp2_with (first | ((with_reducible refine gate_dst (N := 4) rfl ?_); refine box_event ?hg (N := 4) ?hd (cs := #[.int .i64 0, .slice none 0 0, .int .i64 0, .int .i64 0, .slice none 0 0]) (t := 51) ?hr ?_; (case hd => rfl); (case hg => rfl); (case hr => first | (go_simp; done) | (go_simp; rfl)); intro gb230 hg w6 hbox hb; have n0_ := mk_ (IsS82.below (by repeat (first | (with_reducible first | exact HI0.out | apply IsS82.alloc | apply IsS82.drewN | apply IsS82.drew | apply IsS82.set_1) | exact HI0.out)) hb); have n1_ := mk_ (KeepBut.trans (by repeat (first | (with_reducible first | exact HK.out | apply KeepBut.set_ | apply keep_drewN | apply keep_drew | apply keep_alloc) | exact HK.out)) (KeepBut.of_below hb g none) (.inl rfl)); have n2_ := mk_ (below_step (by repeat (first | (with_reducible first | exact HB.out | apply na_ | apply nn_ | apply nw_ | refine bs_ ?_ (IsS82.ge HI0.out)) | exact HB.out)) hb); have n3_ := mk_ (hbox); have n4_ := mk_ ((by rw [hg]; exact (keep_size (w := w) (g := g) (row := none) (by repeat (first | (with_reducible first | exact HK.out | apply KeepBut.set_ | apply keep_drewN | apply keep_drew | apply keep_alloc) | exact HK.out))) : w.heap.size ≤ gb230)); have n5_ := mk_ ((Nat.le_trans HW0.out (by rw [hg]; exact (keep_size (w := w) (g := g) (row := none) (by repeat (first | (with_reducible first | exact HK.out | apply KeepBut.set_ | apply keep_drewN | apply keep_drew | apply keep_alloc) | exact HK.out))) : w.heap.size ≤ gb230) : w0.heap.size ≤ gb230)); have n6_ := mk_ ((by rw [hg]; exact Nat.ne_of_lt (IsS82.lt (show IsS82 w0 _ g s0_0 s0_1 from by repeat (first | (with_reducible first | exact HI0.out | apply IsS82.alloc | apply IsS82.drewN | apply IsS82.drew | apply IsS82.set_1) | exact HI0.out))) : g ≠ gb230)); have n7_ := mk_ ((by rw [hg]; exact Nat.ne_of_gt (IsS82.lt (show IsS82 w0 _ g s0_0 s0_1 from by repeat (first | (with_reducible first | exact HI0.out | apply IsS82.alloc | apply IsS82.drewN | apply IsS82.drew | apply IsS82.set_1) | exact HI0.out))) : gb230 ≠ g)); clear HI0; clear HK; clear HB; have HI0 := n0_; have HK := n1_; have HB := n2_; have BK230 := n3_; have GW230 := n4_; have GE230 := ge_ n5_.out; have NB0_230 := nq_ n6_.out; have NB230_0 := nq_ n7_.out; clear n0_ n1_ n2_ n3_ n4_ n5_ n6_ n7_; clear hb hbox hg) | ((with_reducible refine gate_callee (f := 46) rfl ?_); have hA_ := A3.out; refine goesL_ (some 9) rfl rfl Try.func46 (by kernel_rfl) rfl #[.pointer (some ⟨g, 0, none⟩), .int .i64 3] rfl (by (try simp only [lm_, lo_, ln_]); first | done | rfl | (simp only [List.length_drop, List.length_take]; rfl)) ?_; (with_reducible refine (spec_l20Rd_pick.calls k g s0_0 s0_1 3 t231 t232 w0 _ ?side1 ?side2 A3.out).mono ?_); (case side1 => repeat (first | (with_reducible first | exact HI0.out | apply IsS82.alloc | apply IsS82.drewN | apply IsS82.drew | apply IsS82.set_1 | refine IsS82.far ?_ NB0_230.out _) | exact HI0.out)); (case side2 => repeat (first | (with_reducible first | exact HB.out | apply na_ | apply nn_ | apply nw_ | refine bs_ ?_ (IsS82.ge HI0.out) | refine bs_ ?_ GE230.out) | exact HB.out)); rintro e w7 ⟨rfl, hi, hb, hk⟩; refine ⟨_, rfl, ?_⟩; have n0_ := mk_ (KeepBut.blk hk (g' := gb230) (o := .cells #[.int .i64 0, .slice none 0 0, .int .i64 0, .int .i64 0, .slice none 0 0] 51 (0, 0)) (u_ BK230.out) NB230_0.out (by simp)); have n1_ := mk_ (KeepBut.trans (by repeat (first | (with_reducible first | exact HK.out | apply KeepBut.set_ | apply keep_drewN | apply keep_drew | apply keep_alloc | refine keep_far ?_ GW230.out _) | exact HK.out)) hk (.inl rfl)); have n2_ := mk_ (hb); have n3_ := mk_ (hi); clear BK230; clear HK; clear HB; clear HI0; have BK230 := n0_; have HK := n1_; have HB := n2_; have HI0 := n3_; clear n0_ n1_ n2_ n3_; (try clear hb); (try clear hb2); (try clear hk); (try clear hi); clear hA_ A3) | ((with_reducible refine gate_callee (f := 46) rfl ?_); have hA_ := A4.out; refine goesL_ (some 13) rfl rfl Try.func46 (by kernel_rfl) rfl #[.pointer (some ⟨g, 0, none⟩), .int .i64 30] rfl (by (try simp only [lm_, lo_, ln_]); first | done | rfl | (simp only [List.length_drop, List.length_take]; rfl)) ?_; (with_reducible refine (spec_l20Rd_pick.calls k g s0_0 t232 30 t233 t234 w0 _ ?side1 ?side2 A4.out).mono ?_); (case side1 => repeat (first | (with_reducible first | exact HI0.out | apply IsS82.alloc | apply IsS82.drewN | apply IsS82.drew | apply IsS82.set_1 | refine IsS82.far ?_ NB0_230.out _) | exact HI0.out)); (case side2 => repeat (first | (with_reducible first | exact HB.out | apply na_ | apply nn_ | apply nw_ | refine bs_ ?_ (IsS82.ge HI0.out) | refine bs_ ?_ GE230.out) | exact HB.out)); rintro e w8 ⟨rfl, hi, hb, hk⟩; refine ⟨_, rfl, ?_⟩; have n0_ := mk_ (KeepBut.blk hk (g' := gb230) (o := .cells #[.int .i64 0, .slice none 0 0, .int .i64 0, .int .i64 0, .slice none 0 0] 51 (0, 0)) (u_ BK230.out) NB230_0.out (by simp)); have n1_ := mk_ (KeepBut.trans (by repeat (first | (with_reducible first | exact HK.out | apply KeepBut.set_ | apply keep_drewN | apply keep_drew | apply keep_alloc | refine keep_far ?_ GW230.out _) | exact HK.out)) hk (.inl rfl)); have n2_ := mk_ (hb); have n3_ := mk_ (hi); clear BK230; clear HK; clear HB; clear HI0; have BK230 := n0_; have HK := n1_; have HB := n2_; have HI0 := n3_; clear n0_ n1_ n2_ n3_; (try clear hb); (try clear hb2); (try clear hk); (try clear hi); clear hA_ A4) | ((with_reducible refine gate_dst (N := 5) rfl ?_); refine box_event ?hg (N := 5) ?hd (cs := #[.int .i64 0, .slice none 0 0, .int .i64 0, .int .i64 0, .slice none 0 0]) (t := 51) ?hr ?_; (case hd => rfl); (case hg => rfl); (case hr => first | (go_simp; done) | (go_simp; rfl)); intro gb235 hg w9 hbox hb; have n0_ := mk_ (IsS82.below (by repeat (first | (with_reducible first | exact HI0.out | apply IsS82.alloc | apply IsS82.drewN | apply IsS82.drew | apply IsS82.set_1 | refine IsS82.far ?_ NB0_230.out _) | exact HI0.out)) hb); have n1_ := mk_ (blk_below (u_ BK230.out) hb); have n2_ := mk_ (KeepBut.trans (by repeat (first | (with_reducible first | exact HK.out | apply KeepBut.set_ | apply keep_drewN | apply keep_drew | apply keep_alloc | refine keep_far ?_ GW230.out _) | exact HK.out)) (KeepBut.of_below hb g none) (.inl rfl)); have n3_ := mk_ (below_step (by repeat (first | (with_reducible first | exact HB.out | apply na_ | apply nn_ | apply nw_ | refine bs_ ?_ (IsS82.ge HI0.out) | refine bs_ ?_ GE230.out) | exact HB.out)) hb); have n4_ := mk_ (hbox); have n5_ := mk_ ((by rw [hg]; exact (keep_size (w := w) (g := g) (row := none) (by repeat (first | (with_reducible first | exact HK.out | apply KeepBut.set_ | apply keep_drewN | apply keep_drew | apply keep_alloc | refine keep_far ?_ GW230.out _) | exact HK.out))) : w.heap.size ≤ gb235)); have n6_ := mk_ ((Nat.le_trans HW0.out (by rw [hg]; exact (keep_size (w := w) (g := g) (row := none) (by repeat (first | (with_reducible first | exact HK.out | apply KeepBut.set_ | apply keep_drewN | apply keep_drew | apply keep_alloc | refine keep_far ?_ GW230.out _) | exact HK.out))) : w.heap.size ≤ gb235) : w0.heap.size ≤ gb235)); have n7_ := mk_ ((by rw [hg]; exact Nat.ne_of_lt (blk_lt (u_ BK230.out)) : gb230 ≠ gb235)); have n8_ := mk_ ((by rw [hg]; exact Nat.ne_of_gt (blk_lt (u_ BK230.out)) : gb235 ≠ gb230)); have n9_ := mk_ ((by rw [hg]; exact Nat.ne_of_lt (IsS82.lt (show IsS82 w0 _ g s0_0 t234 from by repeat (first | (with_reducible first | exact HI0.out | apply IsS82.alloc | apply IsS82.drewN | apply IsS82.drew | apply IsS82.set_1 | refine IsS82.far ?_ NB0_230.out _) | exact HI0.out))) : g ≠ gb235)); have n10_ := mk_ ((by rw [hg]; exact Nat.ne_of_gt (IsS82.lt (show IsS82 w0 _ g s0_0 t234 from by repeat (first | (with_reducible first | exact HI0.out | apply IsS82.alloc | apply IsS82.drewN | apply IsS82.drew | apply IsS82.set_1 | refine IsS82.far ?_ NB0_230.out _) | exact HI0.out))) : gb235 ≠ g)); clear HI0; clear BK230; clear HK; clear HB; have HI0 := n0_; have BK230 := n1_; have HK := n2_; have HB := n3_; have BK235 := n4_; have GW235 := n5_; have GE235 := ge_ n6_.out; have NB230_235 := nq_ n7_.out; have NB235_230 := nq_ n8_.out; have NB0_235 := nq_ n9_.out; have NB235_0 := nq_ n10_.out; clear n0_ n1_ n2_ n3_ n4_ n5_ n6_ n7_ n8_ n9_ n10_; clear hb hbox hg; have hnb10 := NB235_230.out; have hnc10 := NB230_235.out; have hnb11 := NB235_0.out; have hnc11 := NB0_235.out; obtain ⟨hcz12_0, hcz12_1, hcz12_2, hcz12_3, hcz12_4, hfz12_0, hfz12_1, hfz12_2, hfz12_3, hfz12_4⟩ := cells5_ BK235.out) | ((with_reducible refine gate_callee (f := 46) rfl ?_); have hA_ := A5.out; refine goesL_ (some 16) rfl rfl Try.func46 (by kernel_rfl) rfl #[.pointer (some ⟨g, 0, none⟩), .int .i64 9] rfl (by (try simp only [lm_, lo_, ln_]); first | done | rfl | (simp only [List.length_drop, List.length_take]; rfl)) ?_; (with_reducible refine (spec_l20Rd_pick.calls k g s0_0 t234 9 t236 t237 w0 _ ?side1 ?side2 A5.out).mono ?_); (case side1 => repeat (first | (with_reducible first | exact HI0.out | apply IsS82.alloc | apply IsS82.drewN | apply IsS82.drew | apply IsS82.set_1 | refine IsS82.far ?_ NB0_230.out _ | refine IsS82.far ?_ NB0_235.out _) | exact HI0.out)); (case side2 => repeat (first | (with_reducible first | exact HB.out | apply na_ | apply nn_ | apply nw_ | refine bs_ ?_ (IsS82.ge HI0.out) | refine bs_ ?_ GE230.out | refine bs_ ?_ GE235.out) | exact HB.out)); rintro e w13 ⟨rfl, hi, hb, hk⟩; refine ⟨_, rfl, ?_⟩; have n0_ := mk_ (KeepBut.blk hk (g' := gb230) (o := .cells #[.int .i64 0, .slice none 0 0, .int .i64 0, .int .i64 0, .slice none 0 0] 51 (0, 0)) (uf_ BK230.out) NB230_0.out (by simp)); have n1_ := mk_ (KeepBut.blk hk (g' := gb235) (o := .cells #[.int .i64 (wrap64 (100 + (wrap64 (t231 * 40)))), .slice none 0 0, .int .i64 0, .int .i64 t233, .slice none 0 0] 51 (0, 0)) (by (with_reducible repeat (first | refine bn_ ?_ _ | refine bw_ ?_ | refine ba_ ?_ _)); refine blk_put (cs := #[.int .i64 (wrap64 (100 + (wrap64 (t231 * 40)))), .slice none 0 0, .int .i64 0, .int .i64 t233, .slice none 0 0]) ?_ 4 _ rfl; (with_reducible repeat (first | refine bn_ ?_ _ | refine bw_ ?_ | refine ba_ ?_ _)); refine blk_put (cs := #[.int .i64 (wrap64 (100 + (wrap64 (t231 * 40)))), .slice none 0 0, .int .i64 0, .int .i64 0, .slice none 0 0]) ?_ 3 _ rfl; (with_reducible repeat (first | refine bn_ ?_ _ | refine bw_ ?_ | refine ba_ ?_ _)); refine blk_put (cs := #[.int .i64 (wrap64 (100 + (wrap64 (t231 * 40)))), .slice none 0 0, .int .i64 0, .int .i64 0, .slice none 0 0]) ?_ 2 _ rfl; (with_reducible repeat (first | refine bn_ ?_ _ | refine bw_ ?_ | refine ba_ ?_ _)); refine blk_put (cs := #[.int .i64 (wrap64 (100 + (wrap64 (t231 * 40)))), .slice none 0 0, .int .i64 0, .int .i64 0, .slice none 0 0]) ?_ 1 _ rfl; (with_reducible repeat (first | refine bn_ ?_ _ | refine bw_ ?_ | refine ba_ ?_ _)); refine blk_put (cs := #[.int .i64 0, .slice none 0 0, .int .i64 0, .int .i64 0, .slice none 0 0]) ?_ 0 _ rfl; (with_reducible repeat (first | refine bn_ ?_ _ | refine bw_ ?_ | refine ba_ ?_ _)); exact BK235.out) NB235_0.out (by simp)); have n2_ := mk_ (KeepBut.trans (by repeat (first | (with_reducible first | exact HK.out | apply KeepBut.set_ | apply keep_drewN | apply keep_drew | apply keep_alloc | refine keep_far ?_ GW230.out _ | refine keep_far ?_ GW235.out _) | exact HK.out)) hk (.inl rfl)); have n3_ := mk_ (hb); have n4_ := mk_ (hi); clear BK230; clear BK235; clear HK; clear HB; clear HI0; have BK230 := n0_; have BK235 := n1_; have HK := n2_; have HB := n3_; have HI0 := n4_; clear n0_ n1_ n2_ n3_ n4_; (try clear hb); (try clear hb2); (try clear hk); (try clear hi); clear hA_ A5))
 go_loopg [6] k (fun kq v6 w' => ∃ (x6_1 : Int) (x1001_1 : Int) (x236000_1 : Int) (x236001_1 : List Int) (x236002_1 : Int) (x236003_1 : Int) (x236004_1 : List (S72)) (u236001 : Value) (u236004 : Value), v6 = .int .i64 x6_1 ∧ Aside0 (spec_l20Mouth.l0 kq a1 x6_1 s0_0 x1001_1 x236000_1 x236001_1 x236002_1 x236003_1 x236004_1 = some (r1, r2, r3, r4, r5, r6)) ∧ Aside0 (kq ≤ k) ∧ Aside0 (Kd.R (Kd.int .u8) 5 w' w.heap.size (fun _ => True) u236001 x236001_1) ∧ Aside0 (Kd.R k72 72 w' w.heap.size (fun _ => True) u236004 x236004_1) ∧ Aside0 (w'.heap[gb230]? = some (.cells #[.int .i64 0, (.slice none 0 0), .int .i64 0, .int .i64 0, (.slice none 0 0)] 51 (0, 0))) ∧ Aside0 (w'.heap[gb235]? = some (.cells #[.int .i64 x236000_1, u236001, .int .i64 x236002_1, .int .i64 x236003_1, u236004] 51 (0, 0))) ∧ Aside0 (IsS82 w0 w' g s0_0 x1001_1) ∧ Aside0 (KeepBut w w' g none) ∧ Aside0 (Below w0.heap.size w0 w'))
 case atStart => exact ⟨(t236), (t237), (wrap64 (100 + (wrap64 (t231 * 40)))), (([] : List Int)), (0), (t233), (([] : List (S72))), (.slice none 0 0), (.slice none 0 0), (by first | rfl | (simp; done) | (simp [*]; done)), H', ⟨Nat.le_refl _⟩, ⟨by first | exact Kd.R_nil _ _ _ _ _ | exact Kd.N_nil _ _ _ _ _ | exact Kd.V_nil _ _ _ _ _ | exact Kd.Q_nil _ _ _ _ _ | exact Kd.S_nil _ _ _ _ _⟩, ⟨by first | exact Kd.R_nil _ _ _ _ _ | exact Kd.N_nil _ _ _ _ _ | exact Kd.V_nil _ _ _ _ _ | exact Kd.Q_nil _ _ _ _ _ | exact Kd.S_nil _ _ _ _ _⟩, ⟨u_ BK230.out⟩, ⟨u_ BK235.out⟩, ⟨by repeat (first | (with_reducible first | exact HI0.out | apply IsS82.alloc | apply IsS82.drewN | apply IsS82.drew | apply IsS82.set_1 | refine IsS82.far ?_ NB0_230.out _ | refine IsS82.far ?_ NB0_235.out _) | exact HI0.out)⟩, ⟨by repeat (first | (with_reducible first | exact HK.out | apply KeepBut.set_ | apply keep_drewN | apply keep_drew | apply keep_alloc | refine keep_far ?_ GW230.out _ | refine keep_far ?_ GW235.out _) | exact HK.out)⟩, ⟨by repeat (first | (with_reducible first | exact HB.out | apply na_ | apply nn_ | apply nw_ | refine bs_ ?_ (IsS82.ge HI0.out) | refine bs_ ?_ GE230.out | refine bs_ ?_ GE235.out) | exact HB.out)⟩⟩
 case round =>
  clear H'
  try clear c1
  try clear p2
  try clear c4
  try clear c5
  try clear p6
  try clear c10
  try clear c11
  try clear hcz12_0
  try clear hcz12_1
  try clear hcz12_2
  try clear hcz12_3
  try clear hcz12_4
  try clear hfz12_0
  try clear hfz12_1
  try clear hfz12_2
  try clear hfz12_3
  try clear hfz12_4
  obtain ⟨x6_1, x1001_1, x236000_1, x236001_1, x236002_1, x236003_1, x236004_1, u236001, u236004, rfl, HA, HK1, HO_236001, HO_236004, BK230, BK235, HI0, HK, HB⟩ := hrel
  cases gk with
  | zero => exact absurd HA.out (by simp [spec_l20Mouth.l0])
  | succ k1 =>
   have H := HA.out
   clear HA
   simp only [spec_l20Mouth.l0] at H
   by_cases c14 : x6_1 > 0
   rotate_left
   ·rw [if_neg c14] at H
    have c14b0 : decide (0 < x6_1) = false := decide_eq_false c14
    clear c14
    replace H := Option.bind_eq_some_iff.mp H
    obtain ⟨⟨t295, t296⟩, A800, H⟩ := H
    replace H : (if t295 = true then ((spec_l20Rd_pick.f k1 s0_0 t296 4).bind fun bt297 => (if bt297.1 = 0 then ((spec_l20Rd_pick.f k1 s0_0 bt297.2 40).bind fun bt299 => (some (x236000_1, x236001_1, wrap64 (bt299.1 - 1), x236003_1, x236004_1, bt299.2))) else (if bt297.1 = 1 then ((spec_l20Rd_pick.f k1 s0_0 bt297.2 2).bind fun bt301 => (some (x236000_1, x236001_1, x236002_1, wrap64 (256 - (wrap64 (bt301.1 * 300))), x236004_1, bt301.2))) else (if bt297.1 = 2 then ((spec_l20Rd_pick.f k1 s0_0 bt297.2 9).bind fun bt303 => ((spec_l20Rd_pick.f k1 s0_0 bt303.2 12).bind fun bt305 => (if x236004_1.length < 8796093022208 then (some (x236000_1, x236001_1, x236002_1, x236003_1, (x236004_1 ++ [(⟨wrap64 (x236000_1 + bt303.1), wrap64 (x236000_1 + bt305.1)⟩ : S72)]), bt305.2)) else (none)))) else (if 33 ≤ 281474976710656 then (some (x236000_1, (List.replicate 33 0), x236002_1, x236003_1, x236004_1, bt297.2)) else (none)))))) else (some (x236000_1, x236001_1, x236002_1, x236003_1, x236004_1, t296))) = some (r1, r2, r3, r4, r5, r6) := H
    have A80 := mk_ A800
    clear A800
    by_cases c81 : t295 = true
    rotate_left
    ·replace c81 := Bool.eq_false_iff.mpr c81
     subst c81
     have H1 : (some (x236000_1, x236001_1, x236002_1, x236003_1, x236004_1, t296)) = some (r1, r2, r3, r4, r5, r6) := by rw [if_neg (show ¬ (false = true) by decide)] at H; exact H
     clear H
     have H := H1
     clear H1
     simp only [Option.some.injEq, Prod.mk.injEq] at H
     obtain ⟨rfl, rfl, rfl, rfl, rfl, rfl⟩ := H
     go_wp2_with (first | ((with_reducible refine gate_callee (f := 65) rfl ?_); refine goesL_ (some 91) rfl rfl Try.func65 (by kernel_rfl) rfl #[.pointer (some ⟨g, 0, none⟩), .int .i64 a1] rfl (by (try simp only [lm_, lo_, ln_]); first | done | rfl | (simp only [List.length_drop, List.length_take]; rfl)) ?_; (with_reducible refine (spec_l20Rd_odd.calls k1 g s0_0 x1001_1 a1 false t296 w0 _ ?side1 ?side2 A80.out).mono ?_); (case side1 => repeat (first | (with_reducible first | exact HI0.out | apply IsS82.alloc | apply IsS82.drewN | apply IsS82.drew | apply IsS82.set_1 | refine IsS82.far ?_ NB0_230.out _ | refine IsS82.far ?_ NB0_235.out _) | exact HI0.out)); (case side2 => repeat (first | (with_reducible first | exact HB.out | apply na_ | apply nn_ | apply nw_ | refine bs_ ?_ (IsS82.ge HI0.out) | refine bs_ ?_ GE230.out | refine bs_ ?_ GE235.out) | exact HB.out)); rintro e w137 ⟨rfl, hi, hb, hk⟩; refine ⟨_, rfl, ?_⟩; have n0_ := mk_ (Kd.R_mono (Kd.R_keep (IsS82.apart (show IsS82 w0 _ g s0_0 x1001_1 from by repeat (first | (with_reducible first | exact HI0.out | apply IsS82.alloc | apply IsS82.drewN | apply IsS82.drew | apply IsS82.set_1 | refine IsS82.far ?_ NB0_230.out _ | refine IsS82.far ?_ NB0_235.out _) | exact HI0.out)) (Kd.ur_ HO_236001.out) (by decide)) hk (fun _ h => h.2)) (fun _ h => h.1)); have n1_ := mk_ (Kd.R_mono (Kd.R_keep (IsS82.apart (show IsS82 w0 _ g s0_0 x1001_1 from by repeat (first | (with_reducible first | exact HI0.out | apply IsS82.alloc | apply IsS82.drewN | apply IsS82.drew | apply IsS82.set_1 | refine IsS82.far ?_ NB0_230.out _ | refine IsS82.far ?_ NB0_235.out _) | exact HI0.out)) (Kd.ur_ HO_236004.out) (by decide)) hk (fun _ h => h.2)) (fun _ h => h.1)); have n2_ := mk_ (KeepBut.blk hk (g' := gb230) (o := .cells #[.int .i64 0, .slice none 0 0, .int .i64 0, .int .i64 0, .slice none 0 0] 51 (0, 0)) (u_ BK230.out) NB230_0.out (by simp)); have n3_ := mk_ (KeepBut.blk hk (g' := gb235) (o := .cells #[.int .i64 x236000_1, u236001, .int .i64 x236002_1, .int .i64 x236003_1, u236004] 51 (0, 0)) (u_ BK235.out) NB235_0.out (by simp)); have n4_ := mk_ (KeepBut.trans (by repeat (first | (with_reducible first | exact HK.out | apply KeepBut.set_ | apply keep_drewN | apply keep_drew | apply keep_alloc | refine keep_far ?_ GW230.out _ | refine keep_far ?_ GW235.out _) | exact HK.out)) hk (.inl rfl)); have n5_ := mk_ (hb); have n6_ := mk_ (hi); clear HO_236001; clear HO_236004; clear BK230; clear BK235; clear HK; clear HB; clear HI0; have HO_236001 := n0_; have HO_236004 := n1_; have BK230 := n2_; have BK235 := n3_; have HK := n4_; have HB := n5_; have HI0 := n6_; clear n0_ n1_ n2_ n3_ n4_ n5_ n6_; (try clear hb); (try clear hb2); (try clear hk); (try clear hi); have hnb138 := NB235_230.out; have hnc138 := NB230_235.out; have hnb139 := NB235_0.out; have hnc139 := NB0_235.out; obtain ⟨hcz140_0, hcz140_1, hcz140_2, hcz140_3, hcz140_4, hfz140_0, hfz140_1, hfz140_2, hfz140_3, hfz140_4⟩ := cells5_ BK235.out; have hnb141 := NB230_0.out; have hnc141 := NB0_230.out; obtain ⟨hcz142_0, hcz142_1, hcz142_2, hcz142_3, hcz142_4, hfz142_0, hfz142_1, hfz142_2, hfz142_3, hfz142_4⟩ := cells5_ BK230.out; obtain ⟨Ao143, co143, eo143⟩ := Kd.R_slice HO_236001.out; subst eo143; obtain ⟨Ao144, co144, eo144⟩ := Kd.R_slice HO_236004.out; subst eo144))
     refine bodyPost_ret (results_cell_row rfl _ _ gb230 51 #[.int .i64 x236000_1, .slice Ao143 x236001_1.length co143, .int .i64 x236002_1, .int .i64 x236003_1, .slice Ao144 x236004_1.length co144] (0, 0) _ rfl (by (with_reducible repeat (first | refine bn_ ?_ _ | refine bw_ ?_ | refine ba_ ?_ _)); refine blk_put (cs := #[.int .i64 x236000_1, .slice Ao143 x236001_1.length co143, .int .i64 x236002_1, .int .i64 x236003_1, .slice none 0 0]) ?_ 4 _ rfl; (with_reducible repeat (first | refine bn_ ?_ _ | refine bw_ ?_ | refine ba_ ?_ _)); refine blk_put (cs := #[.int .i64 x236000_1, .slice Ao143 x236001_1.length co143, .int .i64 x236002_1, .int .i64 0, .slice none 0 0]) ?_ 3 _ rfl; (with_reducible repeat (first | refine bn_ ?_ _ | refine bw_ ?_ | refine ba_ ?_ _)); refine blk_put (cs := #[.int .i64 x236000_1, .slice Ao143 x236001_1.length co143, .int .i64 0, .int .i64 0, .slice none 0 0]) ?_ 2 _ rfl; (with_reducible repeat (first | refine bn_ ?_ _ | refine bw_ ?_ | refine ba_ ?_ _)); refine blk_put (cs := #[.int .i64 x236000_1, .slice none 0 0, .int .i64 0, .int .i64 0, .slice none 0 0]) ?_ 1 _ rfl; (with_reducible repeat (first | refine bn_ ?_ _ | refine bw_ ?_ | refine ba_ ?_ _)); refine blk_put (cs := #[.int .i64 0, .slice none 0 0, .int .i64 0, .int .i64 0, .slice none 0 0]) ?_ 0 _ rfl; (with_reducible repeat (first | refine bn_ ?_ _ | refine bw_ ?_ | refine ba_ ?_ _)); exact BK230.out) Try.underlying51 rfl (by kernel_rfl)) rfl ?_
     exact ⟨_, _, by first | rfl | (simp [errW_none, errW_some] <;> rfl) | (simp [*, errW_none, errW_some] <;> rfl), by (with_reducible repeat (first | apply Kd.R_alloc | apply Kd.R_drewN | apply Kd.R_drew)); exact Kd.R_mono (Kd.R_far (p := ⟨gb230, 4, none⟩) (Kd.R_far (p := ⟨gb230, 3, none⟩) (Kd.R_far (p := ⟨gb230, 2, none⟩) (Kd.R_far (p := ⟨gb230, 1, none⟩) (Kd.R_far (p := ⟨gb230, 0, none⟩) (Kd.R_types HO_236001.out BK230.out (by decide)) (fun _ hk => hk.2) (.int .i64 x236000_1)) (fun _ hk => hk.2) (.slice Ao143 x236001_1.length co143)) (fun _ hk => hk.2) (.int .i64 x236002_1)) (fun _ hk => hk.2) (.int .i64 x236003_1)) (fun _ hk => hk.2) (.slice Ao144 x236004_1.length co144)) (fun _ hk => trivial), by (with_reducible repeat (first | apply Kd.R_alloc | apply Kd.R_drewN | apply Kd.R_drew)); exact Kd.R_mono (Kd.R_far (p := ⟨gb230, 4, none⟩) (Kd.R_far (p := ⟨gb230, 3, none⟩) (Kd.R_far (p := ⟨gb230, 2, none⟩) (Kd.R_far (p := ⟨gb230, 1, none⟩) (Kd.R_far (p := ⟨gb230, 0, none⟩) (Kd.R_types HO_236004.out BK230.out (by decide)) (fun _ hk => hk.2) (.int .i64 x236000_1)) (fun _ hk => hk.2) (.slice Ao143 x236001_1.length co143)) (fun _ hk => hk.2) (.int .i64 x236002_1)) (fun _ hk => hk.2) (.int .i64 x236003_1)) (fun _ hk => hk.2) (.slice Ao144 x236004_1.length co144)) (fun _ hk => trivial), by repeat (first | (with_reducible first | exact HI0.out | apply IsS82.alloc | apply IsS82.drewN | apply IsS82.drew | apply IsS82.set_1 | refine IsS82.far ?_ NB0_230.out _ | refine IsS82.far ?_ NB0_235.out _) | exact HI0.out), by repeat (first | (with_reducible first | exact HB.out | apply na_ | apply nn_ | apply nw_ | refine bs_ ?_ (IsS82.ge HI0.out) | refine bs_ ?_ GE230.out | refine bs_ ?_ GE235.out) | exact HB.out), by repeat (first | (with_reducible first | exact HK.out | apply KeepBut.set_ | apply keep_drewN | apply keep_drew | apply keep_alloc | refine keep_far ?_ GW230.out _ | refine keep_far ?_ GW235.out _) | exact HK.out)⟩
    subst c81
    have H1 : ((spec_l20Rd_pick.f k1 s0_0 t296 4).bind fun bt297 => (if bt297.1 = 0 then ((spec_l20Rd_pick.f k1 s0_0 bt297.2 40).bind fun bt299 => (some (x236000_1, x236001_1, wrap64 (bt299.1 - 1), x236003_1, x236004_1, bt299.2))) else (if bt297.1 = 1 then ((spec_l20Rd_pick.f k1 s0_0 bt297.2 2).bind fun bt301 => (some (x236000_1, x236001_1, x236002_1, wrap64 (256 - (wrap64 (bt301.1 * 300))), x236004_1, bt301.2))) else (if bt297.1 = 2 then ((spec_l20Rd_pick.f k1 s0_0 bt297.2 9).bind fun bt303 => ((spec_l20Rd_pick.f k1 s0_0 bt303.2 12).bind fun bt305 => (if x236004_1.length < 8796093022208 then (some (x236000_1, x236001_1, x236002_1, x236003_1, (x236004_1 ++ [(⟨wrap64 (x236000_1 + bt303.1), wrap64 (x236000_1 + bt305.1)⟩ : S72)]), bt305.2)) else (none)))) else (if 33 ≤ 281474976710656 then (some (x236000_1, (List.replicate 33 0), x236002_1, x236003_1, x236004_1, bt297.2)) else (none)))))) = some (r1, r2, r3, r4, r5, r6) := by rw [if_pos rfl] at H; exact H
    clear H
    have H := H1
    clear H1
    replace H := Option.bind_eq_some_iff.mp H
    obtain ⟨⟨t297, t298⟩, A820, H⟩ := H
    replace H : (if t297 = 0 then ((spec_l20Rd_pick.f k1 s0_0 t298 40).bind fun bt299 => (some (x236000_1, x236001_1, wrap64 (bt299.1 - 1), x236003_1, x236004_1, bt299.2))) else (if t297 = 1 then ((spec_l20Rd_pick.f k1 s0_0 t298 2).bind fun bt301 => (some (x236000_1, x236001_1, x236002_1, wrap64 (256 - (wrap64 (bt301.1 * 300))), x236004_1, bt301.2))) else (if t297 = 2 then ((spec_l20Rd_pick.f k1 s0_0 t298 9).bind fun bt303 => ((spec_l20Rd_pick.f k1 s0_0 bt303.2 12).bind fun bt305 => (if x236004_1.length < 8796093022208 then (some (x236000_1, x236001_1, x236002_1, x236003_1, (x236004_1 ++ [(⟨wrap64 (x236000_1 + bt303.1), wrap64 (x236000_1 + bt305.1)⟩ : S72)]), bt305.2)) else (none)))) else (if 33 ≤ 281474976710656 then (some (x236000_1, (List.replicate 33 0), x236002_1, x236003_1, x236004_1, t298)) else (none))))) = some (r1, r2, r3, r4, r5, r6) := H
    have A82 := mk_ A820
    clear A820
    by_cases c83 : t297 = 0
    ·rw [if_pos c83] at H
     have c83b0 : (t297 == 0) = true := beq_iff_eq.mpr c83
     have c83b1 : (t297 != 0) = false := bne_eq_false_iff_eq.mpr c83
     clear c83
     replace H := Option.bind_eq_some_iff.mp H
     obtain ⟨⟨t299, t300⟩, A840, H⟩ := H
     replace H : (some (x236000_1, x236001_1, wrap64 (t299 - 1), x236003_1, x236004_1, t300)) = some (r1, r2, r3, r4, r5, r6) := H
     have A84 := mk_ A840
     clear A840
     simp only [Option.some.injEq, Prod.mk.injEq] at H
     obtain ⟨rfl, rfl, rfl, rfl, rfl, rfl⟩ := H
     go_wp2_with (first | ((with_reducible refine gate_callee (f := 65) rfl ?_); refine goesL_ (some 91) rfl rfl Try.func65 (by kernel_rfl) rfl #[.pointer (some ⟨g, 0, none⟩), .int .i64 a1] rfl (by (try simp only [lm_, lo_, ln_]); first | done | rfl | (simp only [List.length_drop, List.length_take]; rfl)) ?_; (with_reducible refine (spec_l20Rd_odd.calls k1 g s0_0 x1001_1 a1 true t296 w0 _ ?side1 ?side2 A80.out).mono ?_); (case side1 => repeat (first | (with_reducible first | exact HI0.out | apply IsS82.alloc | apply IsS82.drewN | apply IsS82.drew | apply IsS82.set_1 | refine IsS82.far ?_ NB0_230.out _ | refine IsS82.far ?_ NB0_235.out _) | exact HI0.out)); (case side2 => repeat (first | (with_reducible first | exact HB.out | apply na_ | apply nn_ | apply nw_ | refine bs_ ?_ (IsS82.ge HI0.out) | refine bs_ ?_ GE230.out | refine bs_ ?_ GE235.out) | exact HB.out)); rintro e w85 ⟨rfl, hi, hb, hk⟩; refine ⟨_, rfl, ?_⟩; have n0_ := mk_ (Kd.R_mono (Kd.R_keep (IsS82.apart (show IsS82 w0 _ g s0_0 x1001_1 from by repeat (first | (with_reducible first | exact HI0.out | apply IsS82.alloc | apply IsS82.drewN | apply IsS82.drew | apply IsS82.set_1 | refine IsS82.far ?_ NB0_230.out _ | refine IsS82.far ?_ NB0_235.out _) | exact HI0.out)) (Kd.ur_ HO_236001.out) (by decide)) hk (fun _ h => h.2)) (fun _ h => h.1)); have n1_ := mk_ (Kd.R_mono (Kd.R_keep (IsS82.apart (show IsS82 w0 _ g s0_0 x1001_1 from by repeat (first | (with_reducible first | exact HI0.out | apply IsS82.alloc | apply IsS82.drewN | apply IsS82.drew | apply IsS82.set_1 | refine IsS82.far ?_ NB0_230.out _ | refine IsS82.far ?_ NB0_235.out _) | exact HI0.out)) (Kd.ur_ HO_236004.out) (by decide)) hk (fun _ h => h.2)) (fun _ h => h.1)); have n2_ := mk_ (KeepBut.blk hk (g' := gb230) (o := .cells #[.int .i64 0, .slice none 0 0, .int .i64 0, .int .i64 0, .slice none 0 0] 51 (0, 0)) (u_ BK230.out) NB230_0.out (by simp)); have n3_ := mk_ (KeepBut.blk hk (g' := gb235) (o := .cells #[.int .i64 x236000_1, u236001, .int .i64 x236002_1, .int .i64 x236003_1, u236004] 51 (0, 0)) (u_ BK235.out) NB235_0.out (by simp)); have n4_ := mk_ (KeepBut.trans (by repeat (first | (with_reducible first | exact HK.out | apply KeepBut.set_ | apply keep_drewN | apply keep_drew | apply keep_alloc | refine keep_far ?_ GW230.out _ | refine keep_far ?_ GW235.out _) | exact HK.out)) hk (.inl rfl)); have n5_ := mk_ (hb); have n6_ := mk_ (hi); clear HO_236001; clear HO_236004; clear BK230; clear BK235; clear HK; clear HB; clear HI0; have HO_236001 := n0_; have HO_236004 := n1_; have BK230 := n2_; have BK235 := n3_; have HK := n4_; have HB := n5_; have HI0 := n6_; clear n0_ n1_ n2_ n3_ n4_ n5_ n6_; (try clear hb); (try clear hb2); (try clear hk); (try clear hi)) | ((with_reducible refine gate_callee (f := 46) rfl ?_); have hA_ := A82.out; refine goesL_ (some 93) rfl rfl Try.func46 (by kernel_rfl) rfl #[.pointer (some ⟨g, 0, none⟩), .int .i64 4] rfl (by (try simp only [lm_, lo_, ln_]); first | done | rfl | (simp only [List.length_drop, List.length_take]; rfl)) ?_; (with_reducible refine (spec_l20Rd_pick.calls k1 g s0_0 t296 4 t297 t298 w0 _ ?side1 ?side2 A82.out).mono ?_); (case side1 => repeat (first | (with_reducible first | exact HI0.out | apply IsS82.alloc | apply IsS82.drewN | apply IsS82.drew | apply IsS82.set_1 | refine IsS82.far ?_ NB0_230.out _ | refine IsS82.far ?_ NB0_235.out _) | exact HI0.out)); (case side2 => repeat (first | (with_reducible first | exact HB.out | apply na_ | apply nn_ | apply nw_ | refine bs_ ?_ (IsS82.ge HI0.out) | refine bs_ ?_ GE230.out | refine bs_ ?_ GE235.out) | exact HB.out)); rintro e w86 ⟨rfl, hi, hb, hk⟩; refine ⟨_, rfl, ?_⟩; have n0_ := mk_ (Kd.R_mono (Kd.R_keep (IsS82.apart (show IsS82 w0 _ g s0_0 t296 from by repeat (first | (with_reducible first | exact HI0.out | apply IsS82.alloc | apply IsS82.drewN | apply IsS82.drew | apply IsS82.set_1 | refine IsS82.far ?_ NB0_230.out _ | refine IsS82.far ?_ NB0_235.out _) | exact HI0.out)) (Kd.ur_ HO_236001.out) (by decide)) hk (fun _ h => h.2)) (fun _ h => h.1)); have n1_ := mk_ (Kd.R_mono (Kd.R_keep (IsS82.apart (show IsS82 w0 _ g s0_0 t296 from by repeat (first | (with_reducible first | exact HI0.out | apply IsS82.alloc | apply IsS82.drewN | apply IsS82.drew | apply IsS82.set_1 | refine IsS82.far ?_ NB0_230.out _ | refine IsS82.far ?_ NB0_235.out _) | exact HI0.out)) (Kd.ur_ HO_236004.out) (by decide)) hk (fun _ h => h.2)) (fun _ h => h.1)); have n2_ := mk_ (KeepBut.blk hk (g' := gb230) (o := .cells #[.int .i64 0, .slice none 0 0, .int .i64 0, .int .i64 0, .slice none 0 0] 51 (0, 0)) (u_ BK230.out) NB230_0.out (by simp)); have n3_ := mk_ (KeepBut.blk hk (g' := gb235) (o := .cells #[.int .i64 x236000_1, u236001, .int .i64 x236002_1, .int .i64 x236003_1, u236004] 51 (0, 0)) (u_ BK235.out) NB235_0.out (by simp)); have n4_ := mk_ (KeepBut.trans (by repeat (first | (with_reducible first | exact HK.out | apply KeepBut.set_ | apply keep_drewN | apply keep_drew | apply keep_alloc | refine keep_far ?_ GW230.out _ | refine keep_far ?_ GW235.out _) | exact HK.out)) hk (.inl rfl)); have n5_ := mk_ (hb); have n6_ := mk_ (hi); clear HO_236001; clear HO_236004; clear BK230; clear BK235; clear HK; clear HB; clear HI0; have HO_236001 := n0_; have HO_236004 := n1_; have BK230 := n2_; have BK235 := n3_; have HK := n4_; have HB := n5_; have HI0 := n6_; clear n0_ n1_ n2_ n3_ n4_ n5_ n6_; (try clear hb); (try clear hb2); (try clear hk); (try clear hi); clear hA_ A82) | ((with_reducible refine gate_callee (f := 46) rfl ?_); have hA_ := A84.out; refine goesL_ (some 99) rfl rfl Try.func46 (by kernel_rfl) rfl #[.pointer (some ⟨g, 0, none⟩), .int .i64 40] rfl (by (try simp only [lm_, lo_, ln_]); first | done | rfl | (simp only [List.length_drop, List.length_take]; rfl)) ?_; (with_reducible refine (spec_l20Rd_pick.calls k1 g s0_0 t298 40 t299 t300 w0 _ ?side1 ?side2 A84.out).mono ?_); (case side1 => repeat (first | (with_reducible first | exact HI0.out | apply IsS82.alloc | apply IsS82.drewN | apply IsS82.drew | apply IsS82.set_1 | refine IsS82.far ?_ NB0_230.out _ | refine IsS82.far ?_ NB0_235.out _) | exact HI0.out)); (case side2 => repeat (first | (with_reducible first | exact HB.out | apply na_ | apply nn_ | apply nw_ | refine bs_ ?_ (IsS82.ge HI0.out) | refine bs_ ?_ GE230.out | refine bs_ ?_ GE235.out) | exact HB.out)); rintro e w87 ⟨rfl, hi, hb, hk⟩; refine ⟨_, rfl, ?_⟩; have n0_ := mk_ (Kd.R_mono (Kd.R_keep (IsS82.apart (show IsS82 w0 _ g s0_0 t298 from by repeat (first | (with_reducible first | exact HI0.out | apply IsS82.alloc | apply IsS82.drewN | apply IsS82.drew | apply IsS82.set_1 | refine IsS82.far ?_ NB0_230.out _ | refine IsS82.far ?_ NB0_235.out _) | exact HI0.out)) (Kd.ur_ HO_236001.out) (by decide)) hk (fun _ h => h.2)) (fun _ h => h.1)); have n1_ := mk_ (Kd.R_mono (Kd.R_keep (IsS82.apart (show IsS82 w0 _ g s0_0 t298 from by repeat (first | (with_reducible first | exact HI0.out | apply IsS82.alloc | apply IsS82.drewN | apply IsS82.drew | apply IsS82.set_1 | refine IsS82.far ?_ NB0_230.out _ | refine IsS82.far ?_ NB0_235.out _) | exact HI0.out)) (Kd.ur_ HO_236004.out) (by decide)) hk (fun _ h => h.2)) (fun _ h => h.1)); have n2_ := mk_ (KeepBut.blk hk (g' := gb230) (o := .cells #[.int .i64 0, .slice none 0 0, .int .i64 0, .int .i64 0, .slice none 0 0] 51 (0, 0)) (u_ BK230.out) NB230_0.out (by simp)); have n3_ := mk_ (KeepBut.blk hk (g' := gb235) (o := .cells #[.int .i64 x236000_1, u236001, .int .i64 x236002_1, .int .i64 x236003_1, u236004] 51 (0, 0)) (u_ BK235.out) NB235_0.out (by simp)); have n4_ := mk_ (KeepBut.trans (by repeat (first | (with_reducible first | exact HK.out | apply KeepBut.set_ | apply keep_drewN | apply keep_drew | apply keep_alloc | refine keep_far ?_ GW230.out _ | refine keep_far ?_ GW235.out _) | exact HK.out)) hk (.inl rfl)); have n5_ := mk_ (hb); have n6_ := mk_ (hi); clear HO_236001; clear HO_236004; clear BK230; clear BK235; clear HK; clear HB; clear HI0; have HO_236001 := n0_; have HO_236004 := n1_; have BK230 := n2_; have BK235 := n3_; have HK := n4_; have HB := n5_; have HI0 := n6_; clear n0_ n1_ n2_ n3_ n4_ n5_ n6_; (try clear hb); (try clear hb2); (try clear hk); (try clear hi); have hnb88 := NB235_230.out; have hnc88 := NB230_235.out; have hnb89 := NB235_0.out; have hnc89 := NB0_235.out; obtain ⟨hcz90_0, hcz90_1, hcz90_2, hcz90_3, hcz90_4, hfz90_0, hfz90_1, hfz90_2, hfz90_3, hfz90_4⟩ := cells5_ BK235.out; have hnb91 := NB230_0.out; have hnc91 := NB0_230.out; obtain ⟨hcz92_0, hcz92_1, hcz92_2, hcz92_3, hcz92_4, hfz92_0, hfz92_1, hfz92_2, hfz92_3, hfz92_4⟩ := cells5_ BK230.out; obtain ⟨Ao93, co93, eo93⟩ := Kd.R_slice HO_236001.out; subst eo93; obtain ⟨Ao94, co94, eo94⟩ := Kd.R_slice HO_236004.out; subst eo94; clear hA_ A84))
     refine bodyPost_ret (results_cell_row rfl _ _ gb230 51 #[.int .i64 x236000_1, .slice Ao93 x236001_1.length co93, .int .i64 (wrap64 (t299 - 1)), .int .i64 x236003_1, .slice Ao94 x236004_1.length co94] (0, 0) _ rfl (by (with_reducible repeat (first | refine bn_ ?_ _ | refine bw_ ?_ | refine ba_ ?_ _)); refine blk_put (cs := #[.int .i64 x236000_1, .slice Ao93 x236001_1.length co93, .int .i64 (wrap64 (t299 - 1)), .int .i64 x236003_1, .slice none 0 0]) ?_ 4 _ rfl; (with_reducible repeat (first | refine bn_ ?_ _ | refine bw_ ?_ | refine ba_ ?_ _)); refine blk_put (cs := #[.int .i64 x236000_1, .slice Ao93 x236001_1.length co93, .int .i64 (wrap64 (t299 - 1)), .int .i64 0, .slice none 0 0]) ?_ 3 _ rfl; (with_reducible repeat (first | refine bn_ ?_ _ | refine bw_ ?_ | refine ba_ ?_ _)); refine blk_put (cs := #[.int .i64 x236000_1, .slice Ao93 x236001_1.length co93, .int .i64 0, .int .i64 0, .slice none 0 0]) ?_ 2 _ rfl; (with_reducible repeat (first | refine bn_ ?_ _ | refine bw_ ?_ | refine ba_ ?_ _)); refine blk_put (cs := #[.int .i64 x236000_1, .slice none 0 0, .int .i64 0, .int .i64 0, .slice none 0 0]) ?_ 1 _ rfl; (with_reducible repeat (first | refine bn_ ?_ _ | refine bw_ ?_ | refine ba_ ?_ _)); refine blk_put (cs := #[.int .i64 0, .slice none 0 0, .int .i64 0, .int .i64 0, .slice none 0 0]) ?_ 0 _ rfl; (with_reducible repeat (first | refine bn_ ?_ _ | refine bw_ ?_ | refine ba_ ?_ _)); refine blk_far ?_ NB230_235.out _; (with_reducible repeat (first | refine bn_ ?_ _ | refine bw_ ?_ | refine ba_ ?_ _)); exact BK230.out) Try.underlying51 rfl (by kernel_rfl)) rfl ?_
     exact ⟨_, _, by first | rfl | (simp [errW_none, errW_some] <;> rfl) | (simp [*, errW_none, errW_some] <;> rfl), by (with_reducible repeat (first | apply Kd.R_alloc | apply Kd.R_drewN | apply Kd.R_drew)); exact Kd.R_mono (Kd.R_far (p := ⟨gb230, 4, none⟩) (Kd.R_far (p := ⟨gb230, 3, none⟩) (Kd.R_far (p := ⟨gb230, 2, none⟩) (Kd.R_far (p := ⟨gb230, 1, none⟩) (Kd.R_far (p := ⟨gb230, 0, none⟩) (Kd.R_far (p := ⟨gb235, 2, none⟩) (Kd.R_types (Kd.R_types HO_236001.out BK235.out (by decide)) BK230.out (by decide)) (fun _ hk => hk.1.2) (.int .i64 (wrap64 (t299 - 1)))) (fun _ hk => hk.2) (.int .i64 x236000_1)) (fun _ hk => hk.2) (.slice Ao93 x236001_1.length co93)) (fun _ hk => hk.2) (.int .i64 (wrap64 (t299 - 1)))) (fun _ hk => hk.2) (.int .i64 x236003_1)) (fun _ hk => hk.2) (.slice Ao94 x236004_1.length co94)) (fun _ hk => trivial), by (with_reducible repeat (first | apply Kd.R_alloc | apply Kd.R_drewN | apply Kd.R_drew)); exact Kd.R_mono (Kd.R_far (p := ⟨gb230, 4, none⟩) (Kd.R_far (p := ⟨gb230, 3, none⟩) (Kd.R_far (p := ⟨gb230, 2, none⟩) (Kd.R_far (p := ⟨gb230, 1, none⟩) (Kd.R_far (p := ⟨gb230, 0, none⟩) (Kd.R_far (p := ⟨gb235, 2, none⟩) (Kd.R_types (Kd.R_types HO_236004.out BK235.out (by decide)) BK230.out (by decide)) (fun _ hk => hk.1.2) (.int .i64 (wrap64 (t299 - 1)))) (fun _ hk => hk.2) (.int .i64 x236000_1)) (fun _ hk => hk.2) (.slice Ao93 x236001_1.length co93)) (fun _ hk => hk.2) (.int .i64 (wrap64 (t299 - 1)))) (fun _ hk => hk.2) (.int .i64 x236003_1)) (fun _ hk => hk.2) (.slice Ao94 x236004_1.length co94)) (fun _ hk => trivial), by repeat (first | (with_reducible first | exact HI0.out | apply IsS82.alloc | apply IsS82.drewN | apply IsS82.drew | apply IsS82.set_1 | refine IsS82.far ?_ NB0_230.out _ | refine IsS82.far ?_ NB0_235.out _) | exact HI0.out), by repeat (first | (with_reducible first | exact HB.out | apply na_ | apply nn_ | apply nw_ | refine bs_ ?_ (IsS82.ge HI0.out) | refine bs_ ?_ GE230.out | refine bs_ ?_ GE235.out) | exact HB.out), by repeat (first | (with_reducible first | exact HK.out | apply KeepBut.set_ | apply keep_drewN | apply keep_drew | apply keep_alloc | refine keep_far ?_ GW230.out _ | refine keep_far ?_ GW235.out _) | exact HK.out)⟩
    rw [if_neg c83] at H
    have c83b0 : (t297 == 0) = false := beq_eq_false_iff_ne.mpr c83
    have c83b1 : (t297 != 0) = true := bne_iff_ne.mpr c83
    by_cases c95 : t297 = 1
    ·rw [if_pos c95] at H
     have c95b0 : (t297 == 1) = true := beq_iff_eq.mpr c95
     have c95b1 : (t297 != 1) = false := bne_eq_false_iff_eq.mpr c95
     clear c95
     replace H := Option.bind_eq_some_iff.mp H
     obtain ⟨⟨t301, t302⟩, A960, H⟩ := H
     replace H : (some (x236000_1, x236001_1, x236002_1, wrap64 (256 - (wrap64 (t301 * 300))), x236004_1, t302)) = some (r1, r2, r3, r4, r5, r6) := H
     have A96 := mk_ A960
     clear A960
     simp only [Option.some.injEq, Prod.mk.injEq] at H
     obtain ⟨rfl, rfl, rfl, rfl, rfl, rfl⟩ := H
     go_wp2_with (first | ((with_reducible refine gate_callee (f := 65) rfl ?_); refine goesL_ (some 91) rfl rfl Try.func65 (by kernel_rfl) rfl #[.pointer (some ⟨g, 0, none⟩), .int .i64 a1] rfl (by (try simp only [lm_, lo_, ln_]); first | done | rfl | (simp only [List.length_drop, List.length_take]; rfl)) ?_; (with_reducible refine (spec_l20Rd_odd.calls k1 g s0_0 x1001_1 a1 true t296 w0 _ ?side1 ?side2 A80.out).mono ?_); (case side1 => repeat (first | (with_reducible first | exact HI0.out | apply IsS82.alloc | apply IsS82.drewN | apply IsS82.drew | apply IsS82.set_1 | refine IsS82.far ?_ NB0_230.out _ | refine IsS82.far ?_ NB0_235.out _) | exact HI0.out)); (case side2 => repeat (first | (with_reducible first | exact HB.out | apply na_ | apply nn_ | apply nw_ | refine bs_ ?_ (IsS82.ge HI0.out) | refine bs_ ?_ GE230.out | refine bs_ ?_ GE235.out) | exact HB.out)); rintro e w97 ⟨rfl, hi, hb, hk⟩; refine ⟨_, rfl, ?_⟩; have n0_ := mk_ (Kd.R_mono (Kd.R_keep (IsS82.apart (show IsS82 w0 _ g s0_0 x1001_1 from by repeat (first | (with_reducible first | exact HI0.out | apply IsS82.alloc | apply IsS82.drewN | apply IsS82.drew | apply IsS82.set_1 | refine IsS82.far ?_ NB0_230.out _ | refine IsS82.far ?_ NB0_235.out _) | exact HI0.out)) (Kd.ur_ HO_236001.out) (by decide)) hk (fun _ h => h.2)) (fun _ h => h.1)); have n1_ := mk_ (Kd.R_mono (Kd.R_keep (IsS82.apart (show IsS82 w0 _ g s0_0 x1001_1 from by repeat (first | (with_reducible first | exact HI0.out | apply IsS82.alloc | apply IsS82.drewN | apply IsS82.drew | apply IsS82.set_1 | refine IsS82.far ?_ NB0_230.out _ | refine IsS82.far ?_ NB0_235.out _) | exact HI0.out)) (Kd.ur_ HO_236004.out) (by decide)) hk (fun _ h => h.2)) (fun _ h => h.1)); have n2_ := mk_ (KeepBut.blk hk (g' := gb230) (o := .cells #[.int .i64 0, .slice none 0 0, .int .i64 0, .int .i64 0, .slice none 0 0] 51 (0, 0)) (u_ BK230.out) NB230_0.out (by simp)); have n3_ := mk_ (KeepBut.blk hk (g' := gb235) (o := .cells #[.int .i64 x236000_1, u236001, .int .i64 x236002_1, .int .i64 x236003_1, u236004] 51 (0, 0)) (u_ BK235.out) NB235_0.out (by simp)); have n4_ := mk_ (KeepBut.trans (by repeat (first | (with_reducible first | exact HK.out | apply KeepBut.set_ | apply keep_drewN | apply keep_drew | apply keep_alloc | refine keep_far ?_ GW230.out _ | refine keep_far ?_ GW235.out _) | exact HK.out)) hk (.inl rfl)); have n5_ := mk_ (hb); have n6_ := mk_ (hi); clear HO_236001; clear HO_236004; clear BK230; clear BK235; clear HK; clear HB; clear HI0; have HO_236001 := n0_; have HO_236004 := n1_; have BK230 := n2_; have BK235 := n3_; have HK := n4_; have HB := n5_; have HI0 := n6_; clear n0_ n1_ n2_ n3_ n4_ n5_ n6_; (try clear hb); (try clear hb2); (try clear hk); (try clear hi)) | ((with_reducible refine gate_callee (f := 46) rfl ?_); have hA_ := A82.out; refine goesL_ (some 93) rfl rfl Try.func46 (by kernel_rfl) rfl #[.pointer (some ⟨g, 0, none⟩), .int .i64 4] rfl (by (try simp only [lm_, lo_, ln_]); first | done | rfl | (simp only [List.length_drop, List.length_take]; rfl)) ?_; (with_reducible refine (spec_l20Rd_pick.calls k1 g s0_0 t296 4 t297 t298 w0 _ ?side1 ?side2 A82.out).mono ?_); (case side1 => repeat (first | (with_reducible first | exact HI0.out | apply IsS82.alloc | apply IsS82.drewN | apply IsS82.drew | apply IsS82.set_1 | refine IsS82.far ?_ NB0_230.out _ | refine IsS82.far ?_ NB0_235.out _) | exact HI0.out)); (case side2 => repeat (first | (with_reducible first | exact HB.out | apply na_ | apply nn_ | apply nw_ | refine bs_ ?_ (IsS82.ge HI0.out) | refine bs_ ?_ GE230.out | refine bs_ ?_ GE235.out) | exact HB.out)); rintro e w98 ⟨rfl, hi, hb, hk⟩; refine ⟨_, rfl, ?_⟩; have n0_ := mk_ (Kd.R_mono (Kd.R_keep (IsS82.apart (show IsS82 w0 _ g s0_0 t296 from by repeat (first | (with_reducible first | exact HI0.out | apply IsS82.alloc | apply IsS82.drewN | apply IsS82.drew | apply IsS82.set_1 | refine IsS82.far ?_ NB0_230.out _ | refine IsS82.far ?_ NB0_235.out _) | exact HI0.out)) (Kd.ur_ HO_236001.out) (by decide)) hk (fun _ h => h.2)) (fun _ h => h.1)); have n1_ := mk_ (Kd.R_mono (Kd.R_keep (IsS82.apart (show IsS82 w0 _ g s0_0 t296 from by repeat (first | (with_reducible first | exact HI0.out | apply IsS82.alloc | apply IsS82.drewN | apply IsS82.drew | apply IsS82.set_1 | refine IsS82.far ?_ NB0_230.out _ | refine IsS82.far ?_ NB0_235.out _) | exact HI0.out)) (Kd.ur_ HO_236004.out) (by decide)) hk (fun _ h => h.2)) (fun _ h => h.1)); have n2_ := mk_ (KeepBut.blk hk (g' := gb230) (o := .cells #[.int .i64 0, .slice none 0 0, .int .i64 0, .int .i64 0, .slice none 0 0] 51 (0, 0)) (u_ BK230.out) NB230_0.out (by simp)); have n3_ := mk_ (KeepBut.blk hk (g' := gb235) (o := .cells #[.int .i64 x236000_1, u236001, .int .i64 x236002_1, .int .i64 x236003_1, u236004] 51 (0, 0)) (u_ BK235.out) NB235_0.out (by simp)); have n4_ := mk_ (KeepBut.trans (by repeat (first | (with_reducible first | exact HK.out | apply KeepBut.set_ | apply keep_drewN | apply keep_drew | apply keep_alloc | refine keep_far ?_ GW230.out _ | refine keep_far ?_ GW235.out _) | exact HK.out)) hk (.inl rfl)); have n5_ := mk_ (hb); have n6_ := mk_ (hi); clear HO_236001; clear HO_236004; clear BK230; clear BK235; clear HK; clear HB; clear HI0; have HO_236001 := n0_; have HO_236004 := n1_; have BK230 := n2_; have BK235 := n3_; have HK := n4_; have HB := n5_; have HI0 := n6_; clear n0_ n1_ n2_ n3_ n4_ n5_ n6_; (try clear hb); (try clear hb2); (try clear hk); (try clear hi); clear hA_ A82) | ((with_reducible refine gate_callee (f := 46) rfl ?_); have hA_ := A96.out; refine goesL_ (some 105) rfl rfl Try.func46 (by kernel_rfl) rfl #[.pointer (some ⟨g, 0, none⟩), .int .i64 2] rfl (by (try simp only [lm_, lo_, ln_]); first | done | rfl | (simp only [List.length_drop, List.length_take]; rfl)) ?_; (with_reducible refine (spec_l20Rd_pick.calls k1 g s0_0 t298 2 t301 t302 w0 _ ?side1 ?side2 A96.out).mono ?_); (case side1 => repeat (first | (with_reducible first | exact HI0.out | apply IsS82.alloc | apply IsS82.drewN | apply IsS82.drew | apply IsS82.set_1 | refine IsS82.far ?_ NB0_230.out _ | refine IsS82.far ?_ NB0_235.out _) | exact HI0.out)); (case side2 => repeat (first | (with_reducible first | exact HB.out | apply na_ | apply nn_ | apply nw_ | refine bs_ ?_ (IsS82.ge HI0.out) | refine bs_ ?_ GE230.out | refine bs_ ?_ GE235.out) | exact HB.out)); rintro e w99 ⟨rfl, hi, hb, hk⟩; refine ⟨_, rfl, ?_⟩; have n0_ := mk_ (Kd.R_mono (Kd.R_keep (IsS82.apart (show IsS82 w0 _ g s0_0 t298 from by repeat (first | (with_reducible first | exact HI0.out | apply IsS82.alloc | apply IsS82.drewN | apply IsS82.drew | apply IsS82.set_1 | refine IsS82.far ?_ NB0_230.out _ | refine IsS82.far ?_ NB0_235.out _) | exact HI0.out)) (Kd.ur_ HO_236001.out) (by decide)) hk (fun _ h => h.2)) (fun _ h => h.1)); have n1_ := mk_ (Kd.R_mono (Kd.R_keep (IsS82.apart (show IsS82 w0 _ g s0_0 t298 from by repeat (first | (with_reducible first | exact HI0.out | apply IsS82.alloc | apply IsS82.drewN | apply IsS82.drew | apply IsS82.set_1 | refine IsS82.far ?_ NB0_230.out _ | refine IsS82.far ?_ NB0_235.out _) | exact HI0.out)) (Kd.ur_ HO_236004.out) (by decide)) hk (fun _ h => h.2)) (fun _ h => h.1)); have n2_ := mk_ (KeepBut.blk hk (g' := gb230) (o := .cells #[.int .i64 0, .slice none 0 0, .int .i64 0, .int .i64 0, .slice none 0 0] 51 (0, 0)) (u_ BK230.out) NB230_0.out (by simp)); have n3_ := mk_ (KeepBut.blk hk (g' := gb235) (o := .cells #[.int .i64 x236000_1, u236001, .int .i64 x236002_1, .int .i64 x236003_1, u236004] 51 (0, 0)) (u_ BK235.out) NB235_0.out (by simp)); have n4_ := mk_ (KeepBut.trans (by repeat (first | (with_reducible first | exact HK.out | apply KeepBut.set_ | apply keep_drewN | apply keep_drew | apply keep_alloc | refine keep_far ?_ GW230.out _ | refine keep_far ?_ GW235.out _) | exact HK.out)) hk (.inl rfl)); have n5_ := mk_ (hb); have n6_ := mk_ (hi); clear HO_236001; clear HO_236004; clear BK230; clear BK235; clear HK; clear HB; clear HI0; have HO_236001 := n0_; have HO_236004 := n1_; have BK230 := n2_; have BK235 := n3_; have HK := n4_; have HB := n5_; have HI0 := n6_; clear n0_ n1_ n2_ n3_ n4_ n5_ n6_; (try clear hb); (try clear hb2); (try clear hk); (try clear hi); have hnb100 := NB235_230.out; have hnc100 := NB230_235.out; have hnb101 := NB235_0.out; have hnc101 := NB0_235.out; obtain ⟨hcz102_0, hcz102_1, hcz102_2, hcz102_3, hcz102_4, hfz102_0, hfz102_1, hfz102_2, hfz102_3, hfz102_4⟩ := cells5_ BK235.out; have hnb103 := NB230_0.out; have hnc103 := NB0_230.out; obtain ⟨hcz104_0, hcz104_1, hcz104_2, hcz104_3, hcz104_4, hfz104_0, hfz104_1, hfz104_2, hfz104_3, hfz104_4⟩ := cells5_ BK230.out; obtain ⟨Ao105, co105, eo105⟩ := Kd.R_slice HO_236001.out; subst eo105; obtain ⟨Ao106, co106, eo106⟩ := Kd.R_slice HO_236004.out; subst eo106; clear hA_ A96))
     refine bodyPost_ret (results_cell_row rfl _ _ gb230 51 #[.int .i64 x236000_1, .slice Ao105 x236001_1.length co105, .int .i64 x236002_1, .int .i64 (wrap64 (256 - (wrap64 (t301 * 300)))), .slice Ao106 x236004_1.length co106] (0, 0) _ rfl (by (with_reducible repeat (first | refine bn_ ?_ _ | refine bw_ ?_ | refine ba_ ?_ _)); refine blk_put (cs := #[.int .i64 x236000_1, .slice Ao105 x236001_1.length co105, .int .i64 x236002_1, .int .i64 (wrap64 (256 - (wrap64 (t301 * 300)))), .slice none 0 0]) ?_ 4 _ rfl; (with_reducible repeat (first | refine bn_ ?_ _ | refine bw_ ?_ | refine ba_ ?_ _)); refine blk_put (cs := #[.int .i64 x236000_1, .slice Ao105 x236001_1.length co105, .int .i64 x236002_1, .int .i64 0, .slice none 0 0]) ?_ 3 _ rfl; (with_reducible repeat (first | refine bn_ ?_ _ | refine bw_ ?_ | refine ba_ ?_ _)); refine blk_put (cs := #[.int .i64 x236000_1, .slice Ao105 x236001_1.length co105, .int .i64 0, .int .i64 0, .slice none 0 0]) ?_ 2 _ rfl; (with_reducible repeat (first | refine bn_ ?_ _ | refine bw_ ?_ | refine ba_ ?_ _)); refine blk_put (cs := #[.int .i64 x236000_1, .slice none 0 0, .int .i64 0, .int .i64 0, .slice none 0 0]) ?_ 1 _ rfl; (with_reducible repeat (first | refine bn_ ?_ _ | refine bw_ ?_ | refine ba_ ?_ _)); refine blk_put (cs := #[.int .i64 0, .slice none 0 0, .int .i64 0, .int .i64 0, .slice none 0 0]) ?_ 0 _ rfl; (with_reducible repeat (first | refine bn_ ?_ _ | refine bw_ ?_ | refine ba_ ?_ _)); refine blk_far ?_ NB230_235.out _; (with_reducible repeat (first | refine bn_ ?_ _ | refine bw_ ?_ | refine ba_ ?_ _)); exact BK230.out) Try.underlying51 rfl (by kernel_rfl)) rfl ?_
     exact ⟨_, _, by first | rfl | (simp [errW_none, errW_some] <;> rfl) | (simp [*, errW_none, errW_some] <;> rfl), by (with_reducible repeat (first | apply Kd.R_alloc | apply Kd.R_drewN | apply Kd.R_drew)); exact Kd.R_mono (Kd.R_far (p := ⟨gb230, 4, none⟩) (Kd.R_far (p := ⟨gb230, 3, none⟩) (Kd.R_far (p := ⟨gb230, 2, none⟩) (Kd.R_far (p := ⟨gb230, 1, none⟩) (Kd.R_far (p := ⟨gb230, 0, none⟩) (Kd.R_far (p := ⟨gb235, 3, none⟩) (Kd.R_types (Kd.R_types HO_236001.out BK235.out (by decide)) BK230.out (by decide)) (fun _ hk => hk.1.2) (.int .i64 (wrap64 (256 - (wrap64 (t301 * 300)))))) (fun _ hk => hk.2) (.int .i64 x236000_1)) (fun _ hk => hk.2) (.slice Ao105 x236001_1.length co105)) (fun _ hk => hk.2) (.int .i64 x236002_1)) (fun _ hk => hk.2) (.int .i64 (wrap64 (256 - (wrap64 (t301 * 300)))))) (fun _ hk => hk.2) (.slice Ao106 x236004_1.length co106)) (fun _ hk => trivial), by (with_reducible repeat (first | apply Kd.R_alloc | apply Kd.R_drewN | apply Kd.R_drew)); exact Kd.R_mono (Kd.R_far (p := ⟨gb230, 4, none⟩) (Kd.R_far (p := ⟨gb230, 3, none⟩) (Kd.R_far (p := ⟨gb230, 2, none⟩) (Kd.R_far (p := ⟨gb230, 1, none⟩) (Kd.R_far (p := ⟨gb230, 0, none⟩) (Kd.R_far (p := ⟨gb235, 3, none⟩) (Kd.R_types (Kd.R_types HO_236004.out BK235.out (by decide)) BK230.out (by decide)) (fun _ hk => hk.1.2) (.int .i64 (wrap64 (256 - (wrap64 (t301 * 300)))))) (fun _ hk => hk.2) (.int .i64 x236000_1)) (fun _ hk => hk.2) (.slice Ao105 x236001_1.length co105)) (fun _ hk => hk.2) (.int .i64 x236002_1)) (fun _ hk => hk.2) (.int .i64 (wrap64 (256 - (wrap64 (t301 * 300)))))) (fun _ hk => hk.2) (.slice Ao106 x236004_1.length co106)) (fun _ hk => trivial), by repeat (first | (with_reducible first | exact HI0.out | apply IsS82.alloc | apply IsS82.drewN | apply IsS82.drew | apply IsS82.set_1 | refine IsS82.far ?_ NB0_230.out _ | refine IsS82.far ?_ NB0_235.out _) | exact HI0.out), by repeat (first | (with_reducible first | exact HB.out | apply na_ | apply nn_ | apply nw_ | refine bs_ ?_ (IsS82.ge HI0.out) | refine bs_ ?_ GE230.out | refine bs_ ?_ GE235.out) | exact HB.out), by repeat (first | (with_reducible first | exact HK.out | apply KeepBut.set_ | apply keep_drewN | apply keep_drew | apply keep_alloc | refine keep_far ?_ GW230.out _ | refine keep_far ?_ GW235.out _) | exact HK.out)⟩
    rw [if_neg c95] at H
    have c95b0 : (t297 == 1) = false := beq_eq_false_iff_ne.mpr c95
    have c95b1 : (t297 != 1) = true := bne_iff_ne.mpr c95
    by_cases c107 : t297 = 2
    rotate_left
    ·rw [if_neg c107] at H
     have c107b0 : (t297 == 2) = false := beq_eq_false_iff_ne.mpr c107
     have c107b1 : (t297 != 2) = true := bne_iff_ne.mpr c107
     by_cases c125 : 33 ≤ 281474976710656
     rotate_left
     ·rw [if_neg c125] at H
      exact absurd H (by simp)
     rw [if_pos c125] at H
     have c125b0 := eq_true c125
     have c125b1 : decide (33 ≤ 281474976710656) = true := decide_eq_true c125
     clear c125
     obtain ⟨y310, hy310⟩ : ∃ y_ : List Int, y_ = (List.replicate 33 0) := ⟨_, rfl⟩
     replace H : (some (x236000_1, y310, x236002_1, x236003_1, x236004_1, t298)) = some (r1, r2, r3, r4, r5, r6) := by first | (rw [hy310]; with_reducible exact H) | (have H2_ := (Option.bind_some _ _).symm.trans H; rw [hy310]; with_reducible exact H2_) | (have H2_ := (Option.bind_some _ _).symm.trans H; with_reducible exact H2_) | with_reducible exact H | (rw [hy310]; exact H) | exact H
     have Ny310 := mk_ hy310
     clear hy310
     simp only [Option.some.injEq, Prod.mk.injEq] at H
     obtain ⟨rfl, rfl, rfl, rfl, rfl, rfl⟩ := H
     go_wp2_with (first | ((with_reducible refine gate_callee (f := 65) rfl ?_); refine goesL_ (some 91) rfl rfl Try.func65 (by kernel_rfl) rfl #[.pointer (some ⟨g, 0, none⟩), .int .i64 a1] rfl (by (try simp only [lm_, lo_, ln_]); first | done | rfl | (simp only [List.length_drop, List.length_take]; rfl)) ?_; (with_reducible refine (spec_l20Rd_odd.calls k1 g s0_0 x1001_1 a1 true t296 w0 _ ?side1 ?side2 A80.out).mono ?_); (case side1 => repeat (first | (with_reducible first | exact HI0.out | apply IsS82.alloc | apply IsS82.drewN | apply IsS82.drew | apply IsS82.set_1 | refine IsS82.far ?_ NB0_230.out _ | refine IsS82.far ?_ NB0_235.out _) | exact HI0.out)); (case side2 => repeat (first | (with_reducible first | exact HB.out | apply na_ | apply nn_ | apply nw_ | refine bs_ ?_ (IsS82.ge HI0.out) | refine bs_ ?_ GE230.out | refine bs_ ?_ GE235.out) | exact HB.out)); rintro e w126 ⟨rfl, hi, hb, hk⟩; refine ⟨_, rfl, ?_⟩; have n0_ := mk_ (Kd.R_mono (Kd.R_keep (IsS82.apart (show IsS82 w0 _ g s0_0 x1001_1 from by repeat (first | (with_reducible first | exact HI0.out | apply IsS82.alloc | apply IsS82.drewN | apply IsS82.drew | apply IsS82.set_1 | refine IsS82.far ?_ NB0_230.out _ | refine IsS82.far ?_ NB0_235.out _) | exact HI0.out)) (Kd.ur_ HO_236001.out) (by decide)) hk (fun _ h => h.2)) (fun _ h => h.1)); have n1_ := mk_ (Kd.R_mono (Kd.R_keep (IsS82.apart (show IsS82 w0 _ g s0_0 x1001_1 from by repeat (first | (with_reducible first | exact HI0.out | apply IsS82.alloc | apply IsS82.drewN | apply IsS82.drew | apply IsS82.set_1 | refine IsS82.far ?_ NB0_230.out _ | refine IsS82.far ?_ NB0_235.out _) | exact HI0.out)) (Kd.ur_ HO_236004.out) (by decide)) hk (fun _ h => h.2)) (fun _ h => h.1)); have n2_ := mk_ (KeepBut.blk hk (g' := gb230) (o := .cells #[.int .i64 0, .slice none 0 0, .int .i64 0, .int .i64 0, .slice none 0 0] 51 (0, 0)) (u_ BK230.out) NB230_0.out (by simp)); have n3_ := mk_ (KeepBut.blk hk (g' := gb235) (o := .cells #[.int .i64 x236000_1, u236001, .int .i64 x236002_1, .int .i64 x236003_1, u236004] 51 (0, 0)) (u_ BK235.out) NB235_0.out (by simp)); have n4_ := mk_ (KeepBut.trans (by repeat (first | (with_reducible first | exact HK.out | apply KeepBut.set_ | apply keep_drewN | apply keep_drew | apply keep_alloc | refine keep_far ?_ GW230.out _ | refine keep_far ?_ GW235.out _) | exact HK.out)) hk (.inl rfl)); have n5_ := mk_ (hb); have n6_ := mk_ (hi); clear HO_236001; clear HO_236004; clear BK230; clear BK235; clear HK; clear HB; clear HI0; have HO_236001 := n0_; have HO_236004 := n1_; have BK230 := n2_; have BK235 := n3_; have HK := n4_; have HB := n5_; have HI0 := n6_; clear n0_ n1_ n2_ n3_ n4_ n5_ n6_; (try clear hb); (try clear hb2); (try clear hk); (try clear hi)) | ((with_reducible refine gate_callee (f := 46) rfl ?_); refine goesL_ (some 93) rfl rfl Try.func46 (by kernel_rfl) rfl #[.pointer (some ⟨g, 0, none⟩), .int .i64 4] rfl (by (try simp only [lm_, lo_, ln_]); first | done | rfl | (simp only [List.length_drop, List.length_take]; rfl)) ?_; (with_reducible refine (spec_l20Rd_pick.calls k1 g s0_0 t296 4 t297 t298 w0 _ ?side1 ?side2 A82.out).mono ?_); (case side1 => repeat (first | (with_reducible first | exact HI0.out | apply IsS82.alloc | apply IsS82.drewN | apply IsS82.drew | apply IsS82.set_1 | refine IsS82.far ?_ NB0_230.out _ | refine IsS82.far ?_ NB0_235.out _) | exact HI0.out)); (case side2 => repeat (first | (with_reducible first | exact HB.out | apply na_ | apply nn_ | apply nw_ | refine bs_ ?_ (IsS82.ge HI0.out) | refine bs_ ?_ GE230.out | refine bs_ ?_ GE235.out) | exact HB.out)); rintro e w127 ⟨rfl, hi, hb, hk⟩; refine ⟨_, rfl, ?_⟩; have n0_ := mk_ (Kd.R_mono (Kd.R_keep (IsS82.apart (show IsS82 w0 _ g s0_0 t296 from by repeat (first | (with_reducible first | exact HI0.out | apply IsS82.alloc | apply IsS82.drewN | apply IsS82.drew | apply IsS82.set_1 | refine IsS82.far ?_ NB0_230.out _ | refine IsS82.far ?_ NB0_235.out _) | exact HI0.out)) (Kd.ur_ HO_236001.out) (by decide)) hk (fun _ h => h.2)) (fun _ h => h.1)); have n1_ := mk_ (Kd.R_mono (Kd.R_keep (IsS82.apart (show IsS82 w0 _ g s0_0 t296 from by repeat (first | (with_reducible first | exact HI0.out | apply IsS82.alloc | apply IsS82.drewN | apply IsS82.drew | apply IsS82.set_1 | refine IsS82.far ?_ NB0_230.out _ | refine IsS82.far ?_ NB0_235.out _) | exact HI0.out)) (Kd.ur_ HO_236004.out) (by decide)) hk (fun _ h => h.2)) (fun _ h => h.1)); have n2_ := mk_ (KeepBut.blk hk (g' := gb230) (o := .cells #[.int .i64 0, .slice none 0 0, .int .i64 0, .int .i64 0, .slice none 0 0] 51 (0, 0)) (u_ BK230.out) NB230_0.out (by simp)); have n3_ := mk_ (KeepBut.blk hk (g' := gb235) (o := .cells #[.int .i64 x236000_1, u236001, .int .i64 x236002_1, .int .i64 x236003_1, u236004] 51 (0, 0)) (u_ BK235.out) NB235_0.out (by simp)); have n4_ := mk_ (KeepBut.trans (by repeat (first | (with_reducible first | exact HK.out | apply KeepBut.set_ | apply keep_drewN | apply keep_drew | apply keep_alloc | refine keep_far ?_ GW230.out _ | refine keep_far ?_ GW235.out _) | exact HK.out)) hk (.inl rfl)); have n5_ := mk_ (hb); have n6_ := mk_ (hi); clear HO_236001; clear HO_236004; clear BK230; clear BK235; clear HK; clear HB; clear HI0; have HO_236001 := n0_; have HO_236004 := n1_; have BK230 := n2_; have BK235 := n3_; have HK := n4_; have HB := n5_; have HI0 := n6_; clear n0_ n1_ n2_ n3_ n4_ n5_ n6_; (try clear hb); (try clear hb2); (try clear hk); (try clear hi)) | ((with_reducible refine gate_dst (N := 94) rfl ?_); refine Kd.R_make (Kd.int .u8) _ 5 rfl (N := 94) rfl 22 _ _ rfl 33 rfl rfl Try.underlying22 (.int .u8 0) 1 info5 rfl (by decide) (by omega) 0 (ok := fun _ => True) (okp := fun _ => True) rfl (fun _ hk => hk) trivial (by omega) (by omega) (Below.refl _ _) (Nat.le_refl _) ?_; intro v311 w128 ho129 hb hg_ hnew_; clear hg_ hnew_; (first | rw [← Ny310.out] at ho129 | (simp only [Int.reduceToNat] at ho129; rw [← Ny310.out] at ho129)); have n0_ := mk_ (Kd.R_elder' (Kd.ur_ HO_236001.out) (Kd.R_base ho129) hb); have n1_ := mk_ (Kd.R_below (Kd.ur_ HO_236004.out) hb); have n2_ := mk_ (Kd.R_lower (Kd.R_new' ho129 (Kd.R_lt (Kd.ur_ HO_236001.out))) (keep_size (w := w) (g := g) (row := none) (by repeat (first | (with_reducible first | exact HK.out | apply KeepBut.set_ | apply keep_drewN | apply keep_drew | apply keep_alloc | refine keep_far ?_ GW230.out _ | refine keep_far ?_ GW235.out _) | exact HK.out)))); have n3_ := mk_ (blk_below (u_ BK230.out) hb); have n4_ := mk_ (blk_below (u_ BK235.out) hb); have n5_ := mk_ (IsS82.below (by repeat (first | (with_reducible first | exact HI0.out | apply IsS82.alloc | apply IsS82.drewN | apply IsS82.drew | apply IsS82.set_1 | refine IsS82.far ?_ NB0_230.out _ | refine IsS82.far ?_ NB0_235.out _) | exact HI0.out)) hb); have n6_ := mk_ (KeepBut.trans (by repeat (first | (with_reducible first | exact HK.out | apply KeepBut.set_ | apply keep_drewN | apply keep_drew | apply keep_alloc | refine keep_far ?_ GW230.out _ | refine keep_far ?_ GW235.out _) | exact HK.out)) (KeepBut.of_below hb g none) (.inl rfl)); have n7_ := mk_ (below_step (by repeat (first | (with_reducible first | exact HB.out | apply na_ | apply nn_ | apply nw_ | refine bs_ ?_ (IsS82.ge HI0.out) | refine bs_ ?_ GE230.out | refine bs_ ?_ GE235.out) | exact HB.out)) hb); clear HO_236001; clear HO_236004; clear BK230; clear BK235; clear HI0; clear HK; clear HB; have HO_236001 := n0_; have HO_236004 := n1_; have HO312 := n2_; have BK230 := n3_; have BK235 := n4_; have HI0 := n5_; have HK := n6_; have HB := n7_; clear n0_ n1_ n2_ n3_ n4_ n5_ n6_ n7_; clear hb ho129; obtain ⟨Ao130, co130, eo130⟩ := Kd.R_slice HO312.out; subst eo130; have hnb131 := NB235_230.out; have hnc131 := NB230_235.out; have hnb132 := NB235_0.out; have hnc132 := NB0_235.out; obtain ⟨hcz133_0, hcz133_1, hcz133_2, hcz133_3, hcz133_4, hfz133_0, hfz133_1, hfz133_2, hfz133_3, hfz133_4⟩ := cells5_ BK235.out; have hnb134 := NB230_0.out; have hnc134 := NB0_230.out; obtain ⟨hcz135_0, hcz135_1, hcz135_2, hcz135_3, hcz135_4, hfz135_0, hfz135_1, hfz135_2, hfz135_3, hfz135_4⟩ := cells5_ BK230.out; obtain ⟨Ao136, co136, eo136⟩ := Kd.R_slice HO_236004.out; subst eo136))
     refine bodyPost_ret (results_cell_row rfl _ _ gb230 51 #[.int .i64 x236000_1, .slice Ao130 y310.length co130, .int .i64 x236002_1, .int .i64 x236003_1, .slice Ao136 x236004_1.length co136] (0, 0) _ rfl (by (with_reducible repeat (first | refine bn_ ?_ _ | refine bw_ ?_ | refine ba_ ?_ _)); refine blk_put (cs := #[.int .i64 x236000_1, .slice Ao130 y310.length co130, .int .i64 x236002_1, .int .i64 x236003_1, .slice none 0 0]) ?_ 4 _ rfl; (with_reducible repeat (first | refine bn_ ?_ _ | refine bw_ ?_ | refine ba_ ?_ _)); refine blk_put (cs := #[.int .i64 x236000_1, .slice Ao130 y310.length co130, .int .i64 x236002_1, .int .i64 0, .slice none 0 0]) ?_ 3 _ rfl; (with_reducible repeat (first | refine bn_ ?_ _ | refine bw_ ?_ | refine ba_ ?_ _)); refine blk_put (cs := #[.int .i64 x236000_1, .slice Ao130 y310.length co130, .int .i64 0, .int .i64 0, .slice none 0 0]) ?_ 2 _ rfl; (with_reducible repeat (first | refine bn_ ?_ _ | refine bw_ ?_ | refine ba_ ?_ _)); refine blk_put (cs := #[.int .i64 x236000_1, .slice none 0 0, .int .i64 0, .int .i64 0, .slice none 0 0]) ?_ 1 _ rfl; (with_reducible repeat (first | refine bn_ ?_ _ | refine bw_ ?_ | refine ba_ ?_ _)); refine blk_put (cs := #[.int .i64 0, .slice none 0 0, .int .i64 0, .int .i64 0, .slice none 0 0]) ?_ 0 _ rfl; (with_reducible repeat (first | refine bn_ ?_ _ | refine bw_ ?_ | refine ba_ ?_ _)); refine blk_far ?_ NB230_235.out _; (with_reducible repeat (first | refine bn_ ?_ _ | refine bw_ ?_ | refine ba_ ?_ _)); exact BK230.out) Try.underlying51 rfl (by kernel_rfl)) rfl ?_
     exact ⟨_, _, by first | rfl | (simp [errW_none, errW_some] <;> rfl) | (simp [*, errW_none, errW_some] <;> rfl), by (with_reducible repeat (first | apply Kd.R_alloc | apply Kd.R_drewN | apply Kd.R_drew)); exact Kd.R_mono (Kd.R_far (p := ⟨gb230, 4, none⟩) (Kd.R_far (p := ⟨gb230, 3, none⟩) (Kd.R_far (p := ⟨gb230, 2, none⟩) (Kd.R_far (p := ⟨gb230, 1, none⟩) (Kd.R_far (p := ⟨gb230, 0, none⟩) (Kd.R_far (p := ⟨gb235, 1, none⟩) (Kd.R_types (Kd.R_types HO312.out BK235.out (by decide)) BK230.out (by decide)) (fun _ hk => hk.1.2) (.slice Ao130 y310.length co130)) (fun _ hk => hk.2) (.int .i64 x236000_1)) (fun _ hk => hk.2) (.slice Ao130 y310.length co130)) (fun _ hk => hk.2) (.int .i64 x236002_1)) (fun _ hk => hk.2) (.int .i64 x236003_1)) (fun _ hk => hk.2) (.slice Ao136 x236004_1.length co136)) (fun _ hk => trivial), by (with_reducible repeat (first | apply Kd.R_alloc | apply Kd.R_drewN | apply Kd.R_drew)); exact Kd.R_mono (Kd.R_far (p := ⟨gb230, 4, none⟩) (Kd.R_far (p := ⟨gb230, 3, none⟩) (Kd.R_far (p := ⟨gb230, 2, none⟩) (Kd.R_far (p := ⟨gb230, 1, none⟩) (Kd.R_far (p := ⟨gb230, 0, none⟩) (Kd.R_far (p := ⟨gb235, 1, none⟩) (Kd.R_types (Kd.R_types HO_236004.out BK235.out (by decide)) BK230.out (by decide)) (fun _ hk => hk.1.2) (.slice Ao130 y310.length co130)) (fun _ hk => hk.2) (.int .i64 x236000_1)) (fun _ hk => hk.2) (.slice Ao130 y310.length co130)) (fun _ hk => hk.2) (.int .i64 x236002_1)) (fun _ hk => hk.2) (.int .i64 x236003_1)) (fun _ hk => hk.2) (.slice Ao136 x236004_1.length co136)) (fun _ hk => trivial), by repeat (first | (with_reducible first | exact HI0.out | apply IsS82.alloc | apply IsS82.drewN | apply IsS82.drew | apply IsS82.set_1 | refine IsS82.far ?_ NB0_230.out _ | refine IsS82.far ?_ NB0_235.out _) | exact HI0.out), by repeat (first | (with_reducible first | exact HB.out | apply na_ | apply nn_ | apply nw_ | refine bs_ ?_ (IsS82.ge HI0.out) | refine bs_ ?_ GE230.out | refine bs_ ?_ GE235.out) | exact HB.out), by repeat (first | (with_reducible first | exact HK.out | apply KeepBut.set_ | apply keep_drewN | apply keep_drew | apply keep_alloc | refine keep_far ?_ GW230.out _ | refine keep_far ?_ GW235.out _) | exact HK.out)⟩
    rw [if_pos c107] at H
    have c107b0 : (t297 == 2) = true := beq_iff_eq.mpr c107
    have c107b1 : (t297 != 2) = false := bne_eq_false_iff_eq.mpr c107
    clear c107
    replace H := Option.bind_eq_some_iff.mp H
    obtain ⟨⟨t303, t304⟩, A1080, H⟩ := H
    replace H : ((spec_l20Rd_pick.f k1 s0_0 t304 12).bind fun bt305 => (if x236004_1.length < 8796093022208 then (some (x236000_1, x236001_1, x236002_1, x236003_1, (x236004_1 ++ [(⟨wrap64 (x236000_1 + t303), wrap64 (x236000_1 + bt305.1)⟩ : S72)]), bt305.2)) else (none))) = some (r1, r2, r3, r4, r5, r6) := H
    have A108 := mk_ A1080
    clear A1080
    replace H := Option.bind_eq_some_iff.mp H
    obtain ⟨⟨t305, t306⟩, A1090, H⟩ := H
    replace H : (if x236004_1.length < 8796093022208 then (some (x236000_1, x236001_1, x236002_1, x236003_1, (x236004_1 ++ [(⟨wrap64 (x236000_1 + t303), wrap64 (x236000_1 + t305)⟩ : S72)]), t306)) else (none)) = some (r1, r2, r3, r4, r5, r6) := H
    have A109 := mk_ A1090
    clear A1090
    by_cases c110 : x236004_1.length < 8796093022208
    rotate_left
    ·rw [if_neg c110] at H
     exact absurd H (by simp)
    rw [if_pos c110] at H
    have LMc110 := mk_ c110
    clear c110
    obtain ⟨y307, hy307⟩ : ∃ y_ : List (S72), y_ = (x236004_1 ++ [(⟨wrap64 (x236000_1 + t303), wrap64 (x236000_1 + t305)⟩ : S72)]) := ⟨_, rfl⟩
    replace H : (some (x236000_1, x236001_1, x236002_1, x236003_1, y307, t306)) = some (r1, r2, r3, r4, r5, r6) := by first | (rw [hy307]; with_reducible exact H) | (have H2_ := (Option.bind_some _ _).symm.trans H; rw [hy307]; with_reducible exact H2_) | (have H2_ := (Option.bind_some _ _).symm.trans H; with_reducible exact H2_) | with_reducible exact H | (rw [hy307]; exact H) | exact H
    have Ny307 := mk_ hy307
    clear hy307
    simp only [Option.some.injEq, Prod.mk.injEq] at H
    obtain ⟨rfl, rfl, rfl, rfl, rfl, rfl⟩ := H
    try go_wp2_with (first | ((with_reducible refine gate_callee (f := 65) rfl ?_); refine goesL_ (some 91) rfl rfl Try.func65 (by kernel_rfl) rfl #[.pointer (some ⟨g, 0, none⟩), .int .i64 a1] rfl (by (try simp only [lm_, lo_, ln_]); first | done | rfl | (simp only [List.length_drop, List.length_take]; rfl)) ?_; (with_reducible refine (spec_l20Rd_odd.calls k1 g s0_0 x1001_1 a1 true t296 w0 _ ?side1 ?side2 A80.out).mono ?_); (case side1 => repeat (first | (with_reducible first | exact HI0.out | apply IsS82.alloc | apply IsS82.drewN | apply IsS82.drew | apply IsS82.set_1 | refine IsS82.far ?_ NB0_230.out _ | refine IsS82.far ?_ NB0_235.out _) | exact HI0.out)); (case side2 => repeat (first | (with_reducible first | exact HB.out | apply na_ | apply nn_ | apply nw_ | refine bs_ ?_ (IsS82.ge HI0.out) | refine bs_ ?_ GE230.out | refine bs_ ?_ GE235.out) | exact HB.out)); rintro e w111 ⟨rfl, hi, hb, hk⟩; refine ⟨_, rfl, ?_⟩; have n0_ := mk_ (Kd.R_mono (Kd.R_keep (IsS82.apart (show IsS82 w0 _ g s0_0 x1001_1 from by repeat (first | (with_reducible first | exact HI0.out | apply IsS82.alloc | apply IsS82.drewN | apply IsS82.drew | apply IsS82.set_1 | refine IsS82.far ?_ NB0_230.out _ | refine IsS82.far ?_ NB0_235.out _) | exact HI0.out)) (Kd.ur_ HO_236001.out) (by decide)) hk (fun _ h => h.2)) (fun _ h => h.1)); have n1_ := mk_ (Kd.R_mono (Kd.R_keep (IsS82.apart (show IsS82 w0 _ g s0_0 x1001_1 from by repeat (first | (with_reducible first | exact HI0.out | apply IsS82.alloc | apply IsS82.drewN | apply IsS82.drew | apply IsS82.set_1 | refine IsS82.far ?_ NB0_230.out _ | refine IsS82.far ?_ NB0_235.out _) | exact HI0.out)) (Kd.ur_ HO_236004.out) (by decide)) hk (fun _ h => h.2)) (fun _ h => h.1)); have n2_ := mk_ (KeepBut.blk hk (g' := gb230) (o := .cells #[.int .i64 0, .slice none 0 0, .int .i64 0, .int .i64 0, .slice none 0 0] 51 (0, 0)) (u_ BK230.out) NB230_0.out (by simp)); have n3_ := mk_ (KeepBut.blk hk (g' := gb235) (o := .cells #[.int .i64 x236000_1, u236001, .int .i64 x236002_1, .int .i64 x236003_1, u236004] 51 (0, 0)) (u_ BK235.out) NB235_0.out (by simp)); have n4_ := mk_ (KeepBut.trans (by repeat (first | (with_reducible first | exact HK.out | apply KeepBut.set_ | apply keep_drewN | apply keep_drew | apply keep_alloc | refine keep_far ?_ GW230.out _ | refine keep_far ?_ GW235.out _) | exact HK.out)) hk (.inl rfl)); have n5_ := mk_ (hb); have n6_ := mk_ (hi); clear HO_236001; clear HO_236004; clear BK230; clear BK235; clear HK; clear HB; clear HI0; have HO_236001 := n0_; have HO_236004 := n1_; have BK230 := n2_; have BK235 := n3_; have HK := n4_; have HB := n5_; have HI0 := n6_; clear n0_ n1_ n2_ n3_ n4_ n5_ n6_; (try clear hb); (try clear hb2); (try clear hk); (try clear hi)) | ((with_reducible refine gate_callee (f := 46) rfl ?_); refine goesL_ (some 93) rfl rfl Try.func46 (by kernel_rfl) rfl #[.pointer (some ⟨g, 0, none⟩), .int .i64 4] rfl (by (try simp only [lm_, lo_, ln_]); first | done | rfl | (simp only [List.length_drop, List.length_take]; rfl)) ?_; (with_reducible refine (spec_l20Rd_pick.calls k1 g s0_0 t296 4 t297 t298 w0 _ ?side1 ?side2 A82.out).mono ?_); (case side1 => repeat (first | (with_reducible first | exact HI0.out | apply IsS82.alloc | apply IsS82.drewN | apply IsS82.drew | apply IsS82.set_1 | refine IsS82.far ?_ NB0_230.out _ | refine IsS82.far ?_ NB0_235.out _) | exact HI0.out)); (case side2 => repeat (first | (with_reducible first | exact HB.out | apply na_ | apply nn_ | apply nw_ | refine bs_ ?_ (IsS82.ge HI0.out) | refine bs_ ?_ GE230.out | refine bs_ ?_ GE235.out) | exact HB.out)); rintro e w112 ⟨rfl, hi, hb, hk⟩; refine ⟨_, rfl, ?_⟩; have n0_ := mk_ (Kd.R_mono (Kd.R_keep (IsS82.apart (show IsS82 w0 _ g s0_0 t296 from by repeat (first | (with_reducible first | exact HI0.out | apply IsS82.alloc | apply IsS82.drewN | apply IsS82.drew | apply IsS82.set_1 | refine IsS82.far ?_ NB0_230.out _ | refine IsS82.far ?_ NB0_235.out _) | exact HI0.out)) (Kd.ur_ HO_236001.out) (by decide)) hk (fun _ h => h.2)) (fun _ h => h.1)); have n1_ := mk_ (Kd.R_mono (Kd.R_keep (IsS82.apart (show IsS82 w0 _ g s0_0 t296 from by repeat (first | (with_reducible first | exact HI0.out | apply IsS82.alloc | apply IsS82.drewN | apply IsS82.drew | apply IsS82.set_1 | refine IsS82.far ?_ NB0_230.out _ | refine IsS82.far ?_ NB0_235.out _) | exact HI0.out)) (Kd.ur_ HO_236004.out) (by decide)) hk (fun _ h => h.2)) (fun _ h => h.1)); have n2_ := mk_ (KeepBut.blk hk (g' := gb230) (o := .cells #[.int .i64 0, .slice none 0 0, .int .i64 0, .int .i64 0, .slice none 0 0] 51 (0, 0)) (u_ BK230.out) NB230_0.out (by simp)); have n3_ := mk_ (KeepBut.blk hk (g' := gb235) (o := .cells #[.int .i64 x236000_1, u236001, .int .i64 x236002_1, .int .i64 x236003_1, u236004] 51 (0, 0)) (u_ BK235.out) NB235_0.out (by simp)); have n4_ := mk_ (KeepBut.trans (by repeat (first | (with_reducible first | exact HK.out | apply KeepBut.set_ | apply keep_drewN | apply keep_drew | apply keep_alloc | refine keep_far ?_ GW230.out _ | refine keep_far ?_ GW235.out _) | exact HK.out)) hk (.inl rfl)); have n5_ := mk_ (hb); have n6_ := mk_ (hi); clear HO_236001; clear HO_236004; clear BK230; clear BK235; clear HK; clear HB; clear HI0; have HO_236001 := n0_; have HO_236004 := n1_; have BK230 := n2_; have BK235 := n3_; have HK := n4_; have HB := n5_; have HI0 := n6_; clear n0_ n1_ n2_ n3_ n4_ n5_ n6_; (try clear hb); (try clear hb2); (try clear hk); (try clear hi)))
    have n0_ := mk_ (Kd.R_drew HO_236001.out)
    have n1_ := mk_ (Kd.R_drew HO_236004.out)
    have n2_ := mk_ (blk_drew BK230.out)
    have n3_ := mk_ (blk_drew BK235.out)
    have n4_ := mk_ (IsS82.drew HI0.out)
    have n5_ := mk_ (keep_drew HK.out)
    have n6_ := mk_ (below_drew1 HB.out)
    clear HO_236001
    clear HO_236004
    clear BK230
    clear BK235
    clear HI0
    clear HK
    clear HB
    have HO_236001 := n0_
    have HO_236004 := n1_
    have BK230 := n2_
    have BK235 := n3_
    have HI0 := n4_
    have HK := n5_
    have HB := n6_
    clear n0_ n1_ n2_ n3_ n4_ n5_ n6_
    refine start_ (n := 17) (S := fun w' => w'.cell? ⟨gb235, 0, none⟩ = some (.int .i64 x236000_1) ∧ w'.cell? ⟨gb235, 1, none⟩ = some (u236001) ∧ w'.cell? ⟨gb235, 2, none⟩ = some (.int .i64 x236002_1) ∧ w'.cell? ⟨gb235, 3, none⟩ = some (.int .i64 x236003_1) ∧ w'.cell? ⟨gb235, 4, none⟩ = some (u236004)) (ds := [16]) #[F_, F_, F_, F_, F_, F_, F_, F_, F_, F_, F_, F_, F_, F_, F_, F_, F_] (by kernel_rfl) rfl rfl ⟨(blk_cell BK235.out 0).trans rfl, (blk_cell BK235.out 1).trans rfl, (blk_cell BK235.out 2).trans rfl, (blk_cell BK235.out 3).trans rfl, (blk_cell BK235.out 4).trans rfl⟩ (fun hHeld => ?_); refine with_tabW spec_l20Mouth.tab20 spec_l20Mouth.bits20 (fun HT_ HW_ => ?_)
    generalize w112.drew = w113 at HO_236001 HO_236004 BK230 BK235 HI0 HK HB hHeld ⊢
    refine pure_ (i := 0) (N := some 111) (v := ?_) (a' := ?_) #[T_, F_, F_, F_, F_, F_, F_, F_, F_, F_, F_, F_, F_, F_, F_, F_, F_] rfl rfl (any_of HT_.out (by kernel_rfl)) (fun _ _ _ h => h) (Or.inl ⟨by rfl, ?_⟩) ?_ ?_
    rotate_left
    ·intro w'
     go_simp
     with_reducible rfl
    rotate_left
    ·simp only [Act.put, la_, lz_, ls_, i64_w, i32_w]
     rfl
    refine pure_ (i := 2) (N := some 113) (v := ?_) (a' := ?_) #[T_, F_, T_, F_, F_, F_, F_, F_, F_, F_, F_, F_, F_, F_, F_, F_, F_] rfl rfl (any_of HT_.out (by kernel_rfl)) (fun _ _ _ h => h) (Or.inl ⟨by rfl, ?_⟩) ?_ ?_
    rotate_left
    ·intro w'
     go_simp
     with_reducible rfl
    rotate_left
    ·simp only [Act.put, la_, lz_, ls_, i64_w, i32_w]
     rfl
    refine pure_ (i := 4) (N := some 115) (v := ?_) (a' := ?_) #[T_, F_, T_, F_, T_, F_, F_, F_, F_, F_, F_, F_, F_, F_, F_, F_, F_] rfl rfl (any_of HT_.out (by kernel_rfl)) (fun _ _ _ h => h) (Or.inl ⟨by rfl, ?_⟩) ?_ ?_
    rotate_left
    ·intro w'
     go_simp
     with_reducible rfl
    rotate_left
    ·simp only [Act.put, la_, lz_, ls_, i64_w, i32_w]
     rfl
    refine pure_ (i := 7) (N := some 118) (v := ?_) (a' := ?_) #[T_, F_, T_, F_, T_, F_, F_, T_, F_, F_, F_, F_, F_, F_, F_, F_, F_] rfl rfl (any_of HT_.out (by kernel_rfl)) (fun _ _ _ h => h) (Or.inl ⟨by rfl, ?_⟩) ?_ ?_
    rotate_left
    ·intro w'
     go_simp
     with_reducible rfl
    rotate_left
    ·simp only [Act.put, la_, lz_, ls_, i64_w, i32_w]
     rfl
    refine pure_ (i := 9) (N := some 120) (v := ?_) (a' := ?_) #[T_, F_, T_, F_, T_, F_, F_, T_, F_, T_, F_, F_, F_, F_, F_, F_, F_] rfl rfl (any_of HT_.out (by kernel_rfl)) (fun _ _ _ h => h) (Or.inl ⟨by rfl, ?_⟩) ?_ ?_
    rotate_left
    ·intro w'
     go_simp
     with_reducible rfl
    rotate_left
    ·simp only [Act.put, la_, lz_, ls_, i64_w, i32_w]
     rfl
    refine take_ (i := 1) (N := some 112) (v := ?_) (a' := ?_) #[T_, T_, T_, F_, T_, F_, F_, T_, F_, T_, F_, F_, F_, F_, F_, F_, F_] rfl rfl (take_ofW HT_.out HW_.out (by kernel_rfl)) (fun _ _ _ h => h) (Or.inl ⟨by rfl, ?_⟩) hHeld ?_ ?_
    rotate_left
    ·rintro w' ⟨s0, s1, s2, s3, s4⟩
     go_simp
     with_reducible rfl
    rotate_left
    ·simp only [Act.put, la_, lz_, ls_, i64_w, i32_w]
     rfl
    refine take_ (i := 3) (N := some 114) (v := ?_) (a' := ?_) #[T_, T_, T_, T_, T_, F_, F_, T_, F_, T_, F_, F_, F_, F_, F_, F_, F_] rfl rfl (take_ofW HT_.out HW_.out (by kernel_rfl)) (fun _ _ _ h => h) (Or.inl ⟨by rfl, ?_⟩) hHeld ?_ ?_
    rotate_left
    ·rintro w' ⟨s0, s1, s2, s3, s4⟩
     go_simp
     with_reducible rfl
    rotate_left
    ·simp only [Act.put, la_, lz_, ls_, i64_w, i32_w]
     rfl
    refine take_ (i := 8) (N := some 119) (v := ?_) (a' := ?_) #[T_, T_, T_, T_, T_, F_, F_, T_, T_, T_, F_, F_, F_, F_, F_, F_, F_] rfl rfl (take_ofW HT_.out HW_.out (by kernel_rfl)) (fun _ _ _ h => h) (Or.inl ⟨by rfl, ?_⟩) hHeld ?_ ?_
    rotate_left
    ·rintro w' ⟨s0, s1, s2, s3, s4⟩
     go_simp
     with_reducible rfl
    rotate_left
    ·simp only [Act.put, la_, lz_, ls_, i64_w, i32_w]
     rfl
    refine one_ (i := 5) (N := some 116) #[T_, T_, T_, T_, T_, T_, F_, T_, T_, T_, F_, F_, F_, F_, F_, F_, F_] rfl rfl (one_of HT_.out (by kernel_rfl)) (by decide) (fun K hK => ?_)
    refine goes_ Try.func46 (by kernel_rfl) rfl #[.pointer (some ⟨g, 0, none⟩), .int .i64 9] (by rfl) rfl rfl (by (try simp only [lm_, lo_, ln_]); first | done | rfl | (simp only [List.length_drop, List.length_take]; rfl)) ?_
    with_reducible refine (spec_l20Rd_pick.calls k1 g s0_0 t298 9 t303 t304 w0 _ ?side1 ?side2 A108.out).mono ?_
    (case side1 => repeat (first | (with_reducible first | exact HI0.out | apply IsS82.alloc | apply IsS82.drewN | apply IsS82.drew | apply IsS82.set_1 | refine IsS82.far ?_ NB0_230.out _ | refine IsS82.far ?_ NB0_235.out _) | exact HI0.out))
    (case side2 => repeat (first | (with_reducible first | exact HB.out | apply na_ | apply nn_ | apply nw_ | refine bs_ ?_ (IsS82.ge HI0.out) | refine bs_ ?_ GE230.out | refine bs_ ?_ GE235.out) | exact HB.out))
    rintro e w114 ⟨rfl, hi, hb, hk⟩
    refine ⟨_, rfl, ?_⟩
    have n0_ := mk_ (Kd.R_mono (Kd.R_keep (IsS82.apart (show IsS82 w0 _ g s0_0 t298 from by repeat (first | (with_reducible first | exact HI0.out | apply IsS82.alloc | apply IsS82.drewN | apply IsS82.drew | apply IsS82.set_1 | refine IsS82.far ?_ NB0_230.out _ | refine IsS82.far ?_ NB0_235.out _) | exact HI0.out)) (Kd.ur_ HO_236001.out) (by decide)) hk (fun _ h => h.2)) (fun _ h => h.1))
    have n1_ := mk_ (Kd.R_mono (Kd.R_keep (IsS82.apart (show IsS82 w0 _ g s0_0 t298 from by repeat (first | (with_reducible first | exact HI0.out | apply IsS82.alloc | apply IsS82.drewN | apply IsS82.drew | apply IsS82.set_1 | refine IsS82.far ?_ NB0_230.out _ | refine IsS82.far ?_ NB0_235.out _) | exact HI0.out)) (Kd.ur_ HO_236004.out) (by decide)) hk (fun _ h => h.2)) (fun _ h => h.1))
    have n2_ := mk_ (KeepBut.blk hk (g' := gb230) (o := .cells #[.int .i64 0, .slice none 0 0, .int .i64 0, .int .i64 0, .slice none 0 0] 51 (0, 0)) (u_ BK230.out) NB230_0.out (by simp))
    have n3_ := mk_ (KeepBut.blk hk (g' := gb235) (o := .cells #[.int .i64 x236000_1, u236001, .int .i64 x236002_1, .int .i64 x236003_1, u236004] 51 (0, 0)) (u_ BK235.out) NB235_0.out (by simp))
    have n4_ := mk_ (KeepBut.trans (by repeat (first | (with_reducible first | exact HK.out | apply KeepBut.set_ | apply keep_drewN | apply keep_drew | apply keep_alloc | refine keep_far ?_ GW230.out _ | refine keep_far ?_ GW235.out _) | exact HK.out)) hk (.inl rfl))
    have n5_ := mk_ (hb)
    have n6_ := mk_ (hi)
    clear HO_236001
    clear HO_236004
    clear BK230
    clear BK235
    clear HK
    clear HB
    clear HI0
    have HO_236001 := n0_
    have HO_236004 := n1_
    have BK230 := n2_
    have BK235 := n3_
    have HK := n4_
    have HB := n5_
    have HI0 := n6_
    clear n0_ n1_ n2_ n3_ n4_ n5_ n6_
    (try clear hb)
    (try clear hb2)
    (try clear hk)
    (try clear hi)
    refine hK.out _ _ ⟨(blk_cell BK235.out 0).trans rfl, (blk_cell BK235.out 1).trans rfl, (blk_cell BK235.out 2).trans rfl, (blk_cell BK235.out 3).trans rfl, (blk_cell BK235.out 4).trans rfl⟩ (fun hHeld => ?_)
    clear hK K
    refine norm_ (a' := ?_) ?_ ?_
    rotate_left
    ·show Act.put _ (some 116) _ = _
     simp only [Act.put, la_, lz_, ls_, i64_w, i32_w]
     rfl
    refine pure_ (i := 6) (N := some 117) (v := ?_) (a' := ?_) #[T_, T_, T_, T_, T_, T_, T_, T_, T_, T_, F_, F_, F_, F_, F_, F_, F_] rfl rfl (any_of HT_.out (by kernel_rfl)) (fun _ _ _ h => h) (Or.inl ⟨by rfl, ?_⟩) ?_ ?_
    rotate_left
    ·intro w'
     go_simp
     with_reducible rfl
    rotate_left
    ·simp only [Act.put, la_, lz_, ls_, i64_w, i32_w]
     rfl
    refine one_ (i := 10) (N := some 121) #[T_, T_, T_, T_, T_, T_, T_, T_, T_, T_, T_, F_, F_, F_, F_, F_, F_] rfl rfl (one_of HT_.out (by kernel_rfl)) (by decide) (fun K hK => ?_)
    refine goes_ Try.func46 (by kernel_rfl) rfl #[.pointer (some ⟨g, 0, none⟩), .int .i64 12] (by rfl) rfl rfl (by (try simp only [lm_, lo_, ln_]); first | done | rfl | (simp only [List.length_drop, List.length_take]; rfl)) ?_
    with_reducible refine (spec_l20Rd_pick.calls k1 g s0_0 t304 12 t305 t306 w0 _ ?side1 ?side2 A109.out).mono ?_
    (case side1 => repeat (first | (with_reducible first | exact HI0.out | apply IsS82.alloc | apply IsS82.drewN | apply IsS82.drew | apply IsS82.set_1 | refine IsS82.far ?_ NB0_230.out _ | refine IsS82.far ?_ NB0_235.out _) | exact HI0.out))
    (case side2 => repeat (first | (with_reducible first | exact HB.out | apply na_ | apply nn_ | apply nw_ | refine bs_ ?_ (IsS82.ge HI0.out) | refine bs_ ?_ GE230.out | refine bs_ ?_ GE235.out) | exact HB.out))
    rintro e w115 ⟨rfl, hi, hb, hk⟩
    refine ⟨_, rfl, ?_⟩
    have n0_ := mk_ (Kd.R_mono (Kd.R_keep (IsS82.apart (show IsS82 w0 _ g s0_0 t304 from by repeat (first | (with_reducible first | exact HI0.out | apply IsS82.alloc | apply IsS82.drewN | apply IsS82.drew | apply IsS82.set_1 | refine IsS82.far ?_ NB0_230.out _ | refine IsS82.far ?_ NB0_235.out _) | exact HI0.out)) (Kd.ur_ HO_236001.out) (by decide)) hk (fun _ h => h.2)) (fun _ h => h.1))
    have n1_ := mk_ (Kd.R_mono (Kd.R_keep (IsS82.apart (show IsS82 w0 _ g s0_0 t304 from by repeat (first | (with_reducible first | exact HI0.out | apply IsS82.alloc | apply IsS82.drewN | apply IsS82.drew | apply IsS82.set_1 | refine IsS82.far ?_ NB0_230.out _ | refine IsS82.far ?_ NB0_235.out _) | exact HI0.out)) (Kd.ur_ HO_236004.out) (by decide)) hk (fun _ h => h.2)) (fun _ h => h.1))
    have n2_ := mk_ (KeepBut.blk hk (g' := gb230) (o := .cells #[.int .i64 0, .slice none 0 0, .int .i64 0, .int .i64 0, .slice none 0 0] 51 (0, 0)) (u_ BK230.out) NB230_0.out (by simp))
    have n3_ := mk_ (KeepBut.blk hk (g' := gb235) (o := .cells #[.int .i64 x236000_1, u236001, .int .i64 x236002_1, .int .i64 x236003_1, u236004] 51 (0, 0)) (u_ BK235.out) NB235_0.out (by simp))
    have n4_ := mk_ (KeepBut.trans (by repeat (first | (with_reducible first | exact HK.out | apply KeepBut.set_ | apply keep_drewN | apply keep_drew | apply keep_alloc | refine keep_far ?_ GW230.out _ | refine keep_far ?_ GW235.out _) | exact HK.out)) hk (.inl rfl))
    have n5_ := mk_ (hb)
    have n6_ := mk_ (hi)
    clear HO_236001
    clear HO_236004
    clear BK230
    clear BK235
    clear HK
    clear HB
    clear HI0
    have HO_236001 := n0_
    have HO_236004 := n1_
    have BK230 := n2_
    have BK235 := n3_
    have HK := n4_
    have HB := n5_
    have HI0 := n6_
    clear n0_ n1_ n2_ n3_ n4_ n5_ n6_
    (try clear hb)
    (try clear hb2)
    (try clear hk)
    (try clear hi)
    refine hK.out _ _ ⟨(blk_cell BK235.out 0).trans rfl, (blk_cell BK235.out 1).trans rfl, (blk_cell BK235.out 2).trans rfl, (blk_cell BK235.out 3).trans rfl, (blk_cell BK235.out 4).trans rfl⟩ (fun hHeld => ?_)
    clear hK K
    refine norm_ (a' := ?_) ?_ ?_
    rotate_left
    ·show Act.put _ (some 121) _ = _
     simp only [Act.put, la_, lz_, ls_, i64_w, i32_w]
     rfl
    refine pure_ (i := 11) (N := some 122) (v := ?_) (a' := ?_) #[T_, T_, T_, T_, T_, T_, T_, T_, T_, T_, T_, T_, F_, F_, F_, F_, F_] rfl rfl (any_of HT_.out (by kernel_rfl)) (fun _ _ _ h => h) (Or.inl ⟨by rfl, ?_⟩) ?_ ?_
    rotate_left
    ·intro w'
     go_simp
     with_reducible rfl
    rotate_left
    ·simp only [Act.put, la_, lz_, ls_, i64_w, i32_w]
     rfl
    refine pure_ (i := 12) (N := some 123) (v := ?_) (a' := ?_) #[T_, T_, T_, T_, T_, T_, T_, T_, T_, T_, T_, T_, T_, F_, F_, F_, F_] rfl rfl (any_of HT_.out (by kernel_rfl)) (fun _ _ _ h => h) (Or.inl ⟨by rfl, ?_⟩) ?_ ?_
    rotate_left
    ·intro w'
     go_simp
     with_reducible rfl
    rotate_left
    ·simp only [Act.put, la_, lz_, ls_, i64_w, i32_w]
     rfl
    refine one_ (i := 13) (N := some 124) #[T_, T_, T_, T_, T_, T_, T_, T_, T_, T_, T_, T_, T_, T_, F_, F_, F_] rfl rfl (one_of HT_.out (by kernel_rfl)) (by decide) (fun K hK => ?_)
    refine value_ (w1 := ?_) (v := ?_) (by rfl) rfl ?_ ?_
    rotate_left 2
    ·go_simp
     constructor
     ·rfl
     rfl
    refine hK.out _ _ ⟨(blk_cell (blk_alloc BK235.out _) 0).trans rfl, (blk_cell (blk_alloc BK235.out _) 1).trans rfl, (blk_cell (blk_alloc BK235.out _) 2).trans rfl, (blk_cell (blk_alloc BK235.out _) 3).trans rfl, (blk_cell (blk_alloc BK235.out _) 4).trans rfl⟩ (fun hHeld => ?_)
    clear hK K
    refine norm_ (a' := ?_) ?_ ?_
    rotate_left
    ·show Act.put _ (some 124) _ = _
     simp only [Act.put, la_, lz_, ls_, i64_w, i32_w]
     rfl
    refine one_ (i := 14) (N := some 125) #[T_, T_, T_, T_, T_, T_, T_, T_, T_, T_, T_, T_, T_, T_, T_, F_, F_] rfl rfl (one_of HT_.out (by kernel_rfl)) (by decide) (fun K hK => ?_)
    refine Kd.R_append_step k72 w.heap.size (by rfl) (.tmp 112) (.tmp 124) 49 72 (.agg #[(.int .i64 0), (.int .i64 0)]) 16 rfl Try.underlying49 info72 rfl (by decide) (by omega) u236004 x236004_1 (⟨wrap64 (x236000_1 + t303), wrap64 (x236000_1 + t305)⟩ : S72) [.int .i64 (wrap64 (x236000_1 + t303)), .int .i64 (wrap64 (x236000_1 + t305))] (fun _ => True) (fun _ => False) rfl rfl ?aP (fun _ hk => hk.elim) ?aF ?aO (Below.refl _ _) ?aS ?aL ?_
    (case aP => exact k72_mkM _ _ _ (⟨wrap64 (x236000_1 + t303), wrap64 (x236000_1 + t305)⟩ : S72))
    (case aF => exact (fun _ _ => trivial))
    (case aO => exact (Kd.ur_ HO_236004.out))
    (case aS => exact (keep_size (w := w) (g := g) (row := none) (by repeat (first | (with_reducible first | exact HK.out | apply KeepBut.set_ | apply keep_drewN | apply keep_drew | apply keep_alloc | refine keep_far ?_ GW230.out _ | refine keep_far ?_ GW235.out _) | exact HK.out))))
    (case aL => have := LMc110.out; omega)
    intro v308 w116 ho hb hg hat
    rw [← Ny307.out] at ho
    have n0_ := mk_ (Kd.R_over' (Kd.ur_ HO_236001.out) (Kd.R_typed (Kd.ur_ HO_236004.out)) (by decide) hg)
    have n1_ := mk_ (blk_grown (g := gb230) (o := .cells #[.int .i64 0, .slice none 0 0, .int .i64 0, .int .i64 0, .slice none 0 0] 51 (0, 0)) (u_ BK230.out) hg (Kd.R_ne HO_236004.out BK230.out (by decide)))
    have n2_ := mk_ (blk_grown (g := gb235) (o := .cells #[.int .i64 x236000_1, u236001, .int .i64 x236002_1, .int .i64 x236003_1, u236004] 51 (0, 0)) (u_ BK235.out) hg (Kd.R_ne HO_236004.out BK235.out (by decide)))
    have n3_ := mk_ (IsS82.grown (by repeat (first | (with_reducible first | exact HI0.out | apply IsS82.alloc | apply IsS82.drewN | apply IsS82.drew | apply IsS82.set_1 | refine IsS82.far ?_ NB0_230.out _ | refine IsS82.far ?_ NB0_235.out _) | exact HI0.out)) hg (IsS82.own_ne HI0.out HO_236004.out (by decide)))
    have n4_ := mk_ (below_weaken (by repeat (first | (with_reducible first | exact HB.out | apply na_ | apply nn_ | apply nw_ | refine bs_ ?_ (IsS82.ge HI0.out) | refine bs_ ?_ GE230.out | refine bs_ ?_ GE235.out) | exact HB.out)) HL.out hb)
    have n5_ := mk_ (KeepBut.trans (by repeat (first | (with_reducible first | exact HK.out | apply KeepBut.set_ | apply keep_drewN | apply keep_drew | apply keep_alloc | refine keep_far ?_ GW230.out _ | refine keep_far ?_ GW235.out _) | exact HK.out)) (KeepBut.of_grown hg g) (Kd.R_base2 HO_236004.out))
    have n6_ := mk_ (ho)
    clear HO_236001
    clear BK230
    clear BK235
    clear HI0
    clear HB
    clear HK
    clear HO_236004
    have HO_236001 := n0_
    have BK230 := n1_
    have BK235 := n2_
    have HI0 := n3_
    have HB := n4_
    have HK := n5_
    have HO309 := n6_
    clear n0_ n1_ n2_ n3_ n4_ n5_ n6_
    clear ho hb hg hat
    obtain ⟨Ao117, co117, eo117⟩ := Kd.R_slice HO309.out
    (first | subst eo117 | (injection eo117 with f1_ f2_ f3_; have f4_ := f1_.symm; have f5_ := f3_.symm; clear f1_ f2_ f3_; subst f4_; subst f5_))
    refine hK.out _ _ ⟨(blk_cell BK235.out 0).trans rfl, (blk_cell BK235.out 1).trans rfl, (blk_cell BK235.out 2).trans rfl, (blk_cell BK235.out 3).trans rfl, (blk_cell BK235.out 4).trans rfl⟩ (fun hHeld => ?_)
    clear hK K
    refine norm_ (a' := ?_) ?_ ?_
    rotate_left
    ·show Act.put _ (some 125) _ = _
     simp only [Act.put, la_, lz_, ls_, i64_w, i32_w]
     rfl
    refine pure_ (i := 15) (N := some 126) (v := ?_) (a' := ?_) #[T_, T_, T_, T_, T_, T_, T_, T_, T_, T_, T_, T_, T_, T_, T_, T_, F_] rfl rfl (any_of HT_.out (by kernel_rfl)) (fun _ _ _ h => h) (Or.inl ⟨by rfl, ?_⟩) ?_ ?_
    rotate_left
    ·intro w'
     go_simp
     with_reducible rfl
    rotate_left
    ·simp only [Act.put, la_, lz_, ls_, i64_w, i32_w]
     rfl
    refine last_ (i := 16) (N := none) #[T_, T_, T_, T_, T_, T_, T_, T_, T_, T_, T_, T_, T_, T_, T_, T_, T_] rfl rfl (one_of HT_.out (by kernel_rfl)) (by decide) (fun K hK => ?_)
    have hs118 : w116.cell? ⟨gb235, 4, none⟩ = some (u236004) := (blk_cell BK235.out 4).trans rfl
    have hfs118 := blk_frozen BK235.out 4
    have hns118_0 := NB230_235.out
    have hms118_0 := NB235_230.out
    refine skip_ (w1 := ?_) (by rfl) rfl ?_ ?_
    rotate_left
    ·go_simp
     rfl
    refine hK.out _ _ ?_
    clear hK K
    refine done_ (done_of HT_.out (by kernel_rfl)) ?_
    have hnb119 := NB235_230.out
    have hnc119 := NB230_235.out
    have hnb120 := NB235_0.out
    have hnc120 := NB0_235.out
    obtain ⟨hcz121_0, hcz121_1, hcz121_2, hcz121_3, hcz121_4, hfz121_0, hfz121_1, hfz121_2, hfz121_3, hfz121_4⟩ := cells5_ BK235.out
    have hnb122 := NB230_0.out
    have hnc122 := NB0_230.out
    obtain ⟨hcz123_0, hcz123_1, hcz123_2, hcz123_3, hcz123_4, hfz123_0, hfz123_1, hfz123_2, hfz123_3, hfz123_4⟩ := cells5_ BK230.out
    obtain ⟨Ao124, co124, eo124⟩ := Kd.R_slice HO_236001.out
    subst eo124
    try go_wp2
    refine bodyPost_ret (results_cell_row rfl _ _ gb230 51 #[.int .i64 x236000_1, .slice Ao124 x236001_1.length co124, .int .i64 x236002_1, .int .i64 x236003_1, .slice Ao117 y307.length co117] (0, 0) _ rfl (by (with_reducible repeat (first | refine bn_ ?_ _ | refine bw_ ?_ | refine ba_ ?_ _)); refine blk_put (cs := #[.int .i64 x236000_1, .slice Ao124 x236001_1.length co124, .int .i64 x236002_1, .int .i64 x236003_1, .slice none 0 0]) ?_ 4 _ rfl; (with_reducible repeat (first | refine bn_ ?_ _ | refine bw_ ?_ | refine ba_ ?_ _)); refine blk_put (cs := #[.int .i64 x236000_1, .slice Ao124 x236001_1.length co124, .int .i64 x236002_1, .int .i64 0, .slice none 0 0]) ?_ 3 _ rfl; (with_reducible repeat (first | refine bn_ ?_ _ | refine bw_ ?_ | refine ba_ ?_ _)); refine blk_put (cs := #[.int .i64 x236000_1, .slice Ao124 x236001_1.length co124, .int .i64 0, .int .i64 0, .slice none 0 0]) ?_ 2 _ rfl; (with_reducible repeat (first | refine bn_ ?_ _ | refine bw_ ?_ | refine ba_ ?_ _)); refine blk_put (cs := #[.int .i64 x236000_1, .slice none 0 0, .int .i64 0, .int .i64 0, .slice none 0 0]) ?_ 1 _ rfl; (with_reducible repeat (first | refine bn_ ?_ _ | refine bw_ ?_ | refine ba_ ?_ _)); refine blk_put (cs := #[.int .i64 0, .slice none 0 0, .int .i64 0, .int .i64 0, .slice none 0 0]) ?_ 0 _ rfl; (with_reducible repeat (first | refine bn_ ?_ _ | refine bw_ ?_ | refine ba_ ?_ _)); refine blk_far ?_ NB230_235.out _; (with_reducible repeat (first | refine bn_ ?_ _ | refine bw_ ?_ | refine ba_ ?_ _)); exact BK230.out) Try.underlying51 rfl (by kernel_rfl)) rfl ?_
    exact ⟨_, _, by first | rfl | (simp [errW_none, errW_some] <;> rfl) | (simp [*, errW_none, errW_some] <;> rfl), by (with_reducible repeat (first | apply Kd.R_alloc | apply Kd.R_drewN | apply Kd.R_drew)); exact Kd.R_mono (Kd.R_far (p := ⟨gb230, 4, none⟩) (Kd.R_far (p := ⟨gb230, 3, none⟩) (Kd.R_far (p := ⟨gb230, 2, none⟩) (Kd.R_far (p := ⟨gb230, 1, none⟩) (Kd.R_far (p := ⟨gb230, 0, none⟩) (Kd.R_far (p := ⟨gb235, 4, none⟩) (Kd.R_types (Kd.R_types HO_236001.out BK235.out (by decide)) BK230.out (by decide)) (fun _ hk => hk.1.2) (.slice Ao117 y307.length co117)) (fun _ hk => hk.2) (.int .i64 x236000_1)) (fun _ hk => hk.2) (.slice Ao124 x236001_1.length co124)) (fun _ hk => hk.2) (.int .i64 x236002_1)) (fun _ hk => hk.2) (.int .i64 x236003_1)) (fun _ hk => hk.2) (.slice Ao117 y307.length co117)) (fun _ hk => trivial), by (with_reducible repeat (first | apply Kd.R_alloc | apply Kd.R_drewN | apply Kd.R_drew)); exact Kd.R_mono (Kd.R_far (p := ⟨gb230, 4, none⟩) (Kd.R_far (p := ⟨gb230, 3, none⟩) (Kd.R_far (p := ⟨gb230, 2, none⟩) (Kd.R_far (p := ⟨gb230, 1, none⟩) (Kd.R_far (p := ⟨gb230, 0, none⟩) (Kd.R_far (p := ⟨gb235, 4, none⟩) (Kd.R_types (Kd.R_types HO309.out BK235.out (by decide)) BK230.out (by decide)) (fun _ hk => hk.1.2) (.slice Ao117 y307.length co117)) (fun _ hk => hk.2) (.int .i64 x236000_1)) (fun _ hk => hk.2) (.slice Ao124 x236001_1.length co124)) (fun _ hk => hk.2) (.int .i64 x236002_1)) (fun _ hk => hk.2) (.int .i64 x236003_1)) (fun _ hk => hk.2) (.slice Ao117 y307.length co117)) (fun _ hk => trivial), by repeat (first | (with_reducible first | exact HI0.out | apply IsS82.alloc | apply IsS82.drewN | apply IsS82.drew | apply IsS82.set_1 | refine IsS82.far ?_ NB0_230.out _ | refine IsS82.far ?_ NB0_235.out _) | exact HI0.out), by repeat (first | (with_reducible first | exact HB.out | apply na_ | apply nn_ | apply nw_ | refine bs_ ?_ (IsS82.ge HI0.out) | refine bs_ ?_ GE230.out | refine bs_ ?_ GE235.out) | exact HB.out), by repeat (first | (with_reducible first | exact HK.out | apply KeepBut.set_ | apply keep_drewN | apply keep_drew | apply keep_alloc | refine keep_far ?_ GW230.out _ | refine keep_far ?_ GW235.out _) | exact HK.out)⟩
   rw [if_pos c14] at H
   have c14b0 : decide (0 < x6_1) = true := decide_eq_true c14
   clear c14
   replace H := Option.bind_eq_some_iff.mp H
   obtain ⟨⟨t238, t239⟩, A150, H⟩ := H
   replace H : (if t238 = 0 then ((spec_l20Rd_pick.f k1 s0_0 t239 9).bind fun bt240 => ((spec_l20Heard.f k1 (wrap64 (x236000_1 + (x236001_1.length : Int))) bt240.1).bind fun t242 => ((spec_MouthWrite.f k1 x236000_1 x236001_1 x236002_1 x236003_1 x236004_1 t242).bind fun bt245 => (spec_l20Mouth.l0 k1 a1 (wrap64 (x6_1 - 1)) s0_0 bt240.2 bt245.1 bt245.2.1 bt245.2.2.1 bt245.2.2.2.1 bt245.2.2.2.2.1)))) else (if t238 = 1 then ((spec_l20Rd_pick.f k1 s0_0 t239 (wrap64 (x236002_1 + 1))).bind fun bt255 => ((spec_l20Rd_pick.f k1 s0_0 bt255.2 30).bind fun bt257 => ((spec_l20Rd_pick.f k1 s0_0 bt257.2 4).bind fun bt259 => ((spec_l20Rd_pick.f k1 s0_0 bt259.2 6).bind fun bt261 => ((spec_l20Rd_pick.f k1 s0_0 bt261.2 4).bind fun bt263 => ((spec_l20Rd_pick.f k1 s0_0 bt263.2 9).bind fun bt265 => ((spec_MouthHear.f k1 x236000_1 x236001_1 x236002_1 x236003_1 x236004_1 (wrap64 (x236000_1 + bt255.1)) bt257.1 (([(⟨wrap64 ((wrap64 ((wrap64 (x236000_1 + bt255.1)) + 1)) + bt259.1), wrap64 ((wrap64 ((wrap64 (x236000_1 + bt255.1)) + 2)) + bt261.1)⟩ : S72), (⟨wrap64 ((wrap64 ((wrap64 (x236000_1 + bt255.1)) + 5)) + bt263.1), wrap64 ((wrap64 ((wrap64 (x236000_1 + bt255.1)) + 6)) + bt265.1)⟩ : S72)] : List (S72)))).bind fun bt270 => (spec_l20Mouth.l0 k1 a1 (wrap64 (x6_1 - 1)) s0_0 bt265.2 bt270.1 bt270.2.1 bt270.2.2.1 bt270.2.2.2.1 bt270.2.2.2.2.1)))))))) else ((spec_l20Rd_pick.f k1 s0_0 t239 8).bind fun bt280 => ((spec_MouthNext.f k1 x236000_1 x236001_1 x236002_1 x236003_1 x236004_1 (wrap64 (1 + bt280.1))).bind fun bt282 => (spec_l20Mouth.l0 k1 a1 (wrap64 (x6_1 - 1)) s0_0 bt280.2 bt282.1 bt282.2.1 bt282.2.2.1 bt282.2.2.2.1 bt282.2.2.2.2.1))))) = some (r1, r2, r3, r4, r5, r6) := H
   have A15 := mk_ A150
   clear A150
   by_cases c16 : t238 = 0
   ·rw [if_pos c16] at H
    have c16b0 : (t238 == 0) = true := beq_iff_eq.mpr c16
    have c16b1 : (t238 != 0) = false := bne_eq_false_iff_eq.mpr c16
    clear c16
    replace H := Option.bind_eq_some_iff.mp H
    obtain ⟨⟨t240, t241⟩, A170, H⟩ := H
    replace H : ((spec_l20Heard.f k1 (wrap64 (x236000_1 + (x236001_1.length : Int))) t240).bind fun t242 => ((spec_MouthWrite.f k1 x236000_1 x236001_1 x236002_1 x236003_1 x236004_1 t242).bind fun bt245 => (spec_l20Mouth.l0 k1 a1 (wrap64 (x6_1 - 1)) s0_0 t241 bt245.1 bt245.2.1 bt245.2.2.1 bt245.2.2.2.1 bt245.2.2.2.2.1))) = some (r1, r2, r3, r4, r5, r6) := H
    have A17 := mk_ A170
    clear A170
    replace H := Option.bind_eq_some_iff.mp H
    obtain ⟨t242, A180, H⟩ := H
    replace H : ((spec_MouthWrite.f k1 x236000_1 x236001_1 x236002_1 x236003_1 x236004_1 t242).bind fun bt245 => (spec_l20Mouth.l0 k1 a1 (wrap64 (x6_1 - 1)) s0_0 t241 bt245.1 bt245.2.1 bt245.2.2.1 bt245.2.2.2.1 bt245.2.2.2.2.1)) = some (r1, r2, r3, r4, r5, r6) := H
    have A18 := mk_ A180
    clear A180
    replace H := Option.bind_eq_some_iff.mp H
    obtain ⟨⟨t245, t246, t249, t250, t251, t254⟩, A190, H⟩ := H
    replace H : (spec_l20Mouth.l0 k1 a1 (wrap64 (x6_1 - 1)) s0_0 t241 t245 t246 t249 t250 t251) = some (r1, r2, r3, r4, r5, r6) := H
    have A19 := mk_ A190
    clear A190
    have H' := mk_ H
    clear H
    try go_wp2_with (first | ((with_reducible refine gate_callee (f := 46) rfl ?_); refine goesL_ (some 22) rfl rfl Try.func46 (by kernel_rfl) rfl #[.pointer (some ⟨g, 0, none⟩), .int .i64 4] rfl (by (try simp only [lm_, lo_, ln_]); first | done | rfl | (simp only [List.length_drop, List.length_take]; rfl)) ?_; (with_reducible refine (spec_l20Rd_pick.calls k1 g s0_0 x1001_1 4 t238 t239 w0 _ ?side1 ?side2 A15.out).mono ?_); (case side1 => repeat (first | (with_reducible first | exact HI0.out | apply IsS82.alloc | apply IsS82.drewN | apply IsS82.drew | apply IsS82.set_1 | refine IsS82.far ?_ NB0_230.out _ | refine IsS82.far ?_ NB0_235.out _) | exact HI0.out)); (case side2 => repeat (first | (with_reducible first | exact HB.out | apply na_ | apply nn_ | apply nw_ | refine bs_ ?_ (IsS82.ge HI0.out) | refine bs_ ?_ GE230.out | refine bs_ ?_ GE235.out) | exact HB.out)); rintro e w20 ⟨rfl, hi, hb, hk⟩; refine ⟨_, rfl, ?_⟩; have n0_ := mk_ (Kd.R_mono (Kd.R_keep (IsS82.apart (show IsS82 w0 _ g s0_0 x1001_1 from by repeat (first | (with_reducible first | exact HI0.out | apply IsS82.alloc | apply IsS82.drewN | apply IsS82.drew | apply IsS82.set_1 | refine IsS82.far ?_ NB0_230.out _ | refine IsS82.far ?_ NB0_235.out _) | exact HI0.out)) (Kd.ur_ HO_236001.out) (by decide)) hk (fun _ h => h.2)) (fun _ h => h.1)); have n1_ := mk_ (Kd.R_mono (Kd.R_keep (IsS82.apart (show IsS82 w0 _ g s0_0 x1001_1 from by repeat (first | (with_reducible first | exact HI0.out | apply IsS82.alloc | apply IsS82.drewN | apply IsS82.drew | apply IsS82.set_1 | refine IsS82.far ?_ NB0_230.out _ | refine IsS82.far ?_ NB0_235.out _) | exact HI0.out)) (Kd.ur_ HO_236004.out) (by decide)) hk (fun _ h => h.2)) (fun _ h => h.1)); have n2_ := mk_ (KeepBut.blk hk (g' := gb230) (o := .cells #[.int .i64 0, .slice none 0 0, .int .i64 0, .int .i64 0, .slice none 0 0] 51 (0, 0)) (u_ BK230.out) NB230_0.out (by simp)); have n3_ := mk_ (KeepBut.blk hk (g' := gb235) (o := .cells #[.int .i64 x236000_1, u236001, .int .i64 x236002_1, .int .i64 x236003_1, u236004] 51 (0, 0)) (u_ BK235.out) NB235_0.out (by simp)); have n4_ := mk_ (KeepBut.trans (by repeat (first | (with_reducible first | exact HK.out | apply KeepBut.set_ | apply keep_drewN | apply keep_drew | apply keep_alloc | refine keep_far ?_ GW230.out _ | refine keep_far ?_ GW235.out _) | exact HK.out)) hk (.inl rfl)); have n5_ := mk_ (hb); have n6_ := mk_ (hi); clear HO_236001; clear HO_236004; clear BK230; clear BK235; clear HK; clear HB; clear HI0; have HO_236001 := n0_; have HO_236004 := n1_; have BK230 := n2_; have BK235 := n3_; have HK := n4_; have HB := n5_; have HI0 := n6_; clear n0_ n1_ n2_ n3_ n4_ n5_ n6_; (try clear hb); (try clear hb2); (try clear hk); (try clear hi)))
    have n0_ := mk_ (Kd.R_drew HO_236001.out)
    have n1_ := mk_ (Kd.R_drew HO_236004.out)
    have n2_ := mk_ (blk_drew BK230.out)
    have n3_ := mk_ (blk_drew BK235.out)
    have n4_ := mk_ (IsS82.drew HI0.out)
    have n5_ := mk_ (keep_drew HK.out)
    have n6_ := mk_ (below_drew1 HB.out)
    clear HO_236001
    clear HO_236004
    clear BK230
    clear BK235
    clear HI0
    clear HK
    clear HB
    have HO_236001 := n0_
    have HO_236004 := n1_
    have BK230 := n2_
    have BK235 := n3_
    have HI0 := n4_
    have HK := n5_
    have HB := n6_
    clear n0_ n1_ n2_ n3_ n4_ n5_ n6_
    obtain ⟨Ao22, co22, eo22⟩ := Kd.R_slice HO_236001.out
    (first | subst eo22 | (injection eo22 with f1_ f2_ f3_; have f4_ := f1_.symm; have f5_ := f3_.symm; clear f1_ f2_ f3_; subst f4_; subst f5_))
    refine start_ (n := 15) (S := fun w' => w'.cell? ⟨gb235, 0, none⟩ = some (.int .i64 x236000_1) ∧ w'.cell? ⟨gb235, 1, none⟩ = some (.slice Ao22 x236001_1.length co22) ∧ w'.cell? ⟨gb235, 2, none⟩ = some (.int .i64 x236002_1) ∧ w'.cell? ⟨gb235, 3, none⟩ = some (.int .i64 x236003_1) ∧ w'.cell? ⟨gb235, 4, none⟩ = some (u236004)) (ds := [14]) #[F_, F_, F_, F_, F_, F_, F_, F_, F_, F_, F_, F_, F_, F_, F_] (by kernel_rfl) rfl rfl ⟨(blk_cell BK235.out 0).trans rfl, (blk_cell BK235.out 1).trans rfl, (blk_cell BK235.out 2).trans rfl, (blk_cell BK235.out 3).trans rfl, (blk_cell BK235.out 4).trans rfl⟩ (fun hHeld => ?_); refine with_tabW spec_l20Mouth.tab8 spec_l20Mouth.bits8 (fun HT_ HW_ => ?_)
    generalize w20.drew = w21 at HO_236001 HO_236004 BK230 BK235 HI0 HK HB hHeld ⊢
    refine pure_ (i := 1) (N := some 36) (v := ?_) (a' := ?_) #[F_, T_, F_, F_, F_, F_, F_, F_, F_, F_, F_, F_, F_, F_, F_] rfl rfl (any_of HT_.out (by kernel_rfl)) (fun _ _ _ h => h) (Or.inl ⟨by rfl, ?_⟩) ?_ ?_
    rotate_left
    ·intro w'
     go_simp
     with_reducible rfl
    rotate_left
    ·simp only [Act.put, la_, lz_, ls_, i64_w, i32_w]
     rfl
    refine pure_ (i := 3) (N := some 38) (v := ?_) (a' := ?_) #[F_, T_, F_, T_, F_, F_, F_, F_, F_, F_, F_, F_, F_, F_, F_] rfl rfl (any_of HT_.out (by kernel_rfl)) (fun _ _ _ h => h) (Or.inl ⟨by rfl, ?_⟩) ?_ ?_
    rotate_left
    ·intro w'
     go_simp
     with_reducible rfl
    rotate_left
    ·simp only [Act.put, la_, lz_, ls_, i64_w, i32_w]
     rfl
    refine pure_ (i := 7) (N := some 42) (v := ?_) (a' := ?_) #[F_, T_, F_, T_, F_, F_, F_, T_, F_, F_, F_, F_, F_, F_, F_] rfl rfl (any_of HT_.out (by kernel_rfl)) (fun _ _ _ h => h) (Or.inl ⟨by rfl, ?_⟩) ?_ ?_
    rotate_left
    ·intro w'
     go_simp
     with_reducible rfl
    rotate_left
    ·simp only [Act.put, la_, lz_, ls_, i64_w, i32_w]
     rfl
    refine take_ (i := 0) (N := some 35) (v := ?_) (a' := ?_) #[T_, T_, F_, T_, F_, F_, F_, T_, F_, F_, F_, F_, F_, F_, F_] rfl rfl (take_ofW HT_.out HW_.out (by kernel_rfl)) (fun _ _ _ h => h) (Or.inl ⟨by rfl, ?_⟩) hHeld ?_ ?_
    rotate_left
    ·rintro w' ⟨s0, s1, s2, s3, s4⟩
     go_simp
     with_reducible rfl
    rotate_left
    ·simp only [Act.put, la_, lz_, ls_, i64_w, i32_w]
     rfl
    refine take_ (i := 2) (N := some 37) (v := ?_) (a' := ?_) #[T_, T_, T_, T_, F_, F_, F_, T_, F_, F_, F_, F_, F_, F_, F_] rfl rfl (take_ofW HT_.out HW_.out (by kernel_rfl)) (fun _ _ _ h => h) (Or.inl ⟨by rfl, ?_⟩) hHeld ?_ ?_
    rotate_left
    ·rintro w' ⟨s0, s1, s2, s3, s4⟩
     go_simp
     with_reducible rfl
    rotate_left
    ·simp only [Act.put, la_, lz_, ls_, i64_w, i32_w]
     rfl
    refine take_ (i := 4) (N := some 39) (v := ?_) (a' := ?_) #[T_, T_, T_, T_, T_, F_, F_, T_, F_, F_, F_, F_, F_, F_, F_] rfl rfl (take_ofW HT_.out HW_.out (by kernel_rfl)) (fun _ _ _ h => h) (Or.inl ⟨by rfl, ?_⟩) hHeld ?_ ?_
    rotate_left
    ·rintro w' ⟨s0, s1, s2, s3, s4⟩
     go_simp
     with_reducible rfl
    rotate_left
    ·simp only [Act.put, la_, lz_, ls_, i64_w, i32_w]
     rfl
    refine pure_ (i := 5) (N := some 40) (v := ?_) (a' := ?_) #[T_, T_, T_, T_, T_, T_, F_, T_, F_, F_, F_, F_, F_, F_, F_] rfl rfl (any_of HT_.out (by kernel_rfl)) (fun _ _ _ h => h) (Or.inl ⟨by rfl, ?_⟩) ?_ ?_
    rotate_left
    ·intro w'
     go_simp
     with_reducible rfl
    rotate_left
    ·simp only [Act.put, la_, lz_, ls_, i64_w, i32_w]
     rfl
    refine pure_ (i := 6) (N := some 41) (v := ?_) (a' := ?_) #[T_, T_, T_, T_, T_, T_, T_, T_, F_, F_, F_, F_, F_, F_, F_] rfl rfl (any_of HT_.out (by kernel_rfl)) (fun _ _ _ h => h) (Or.inl ⟨by rfl, ?_⟩) ?_ ?_
    rotate_left
    ·intro w'
     go_simp
     with_reducible rfl
    rotate_left
    ·simp only [Act.put, la_, lz_, ls_, i64_w, i32_w]
     rfl
    refine one_ (i := 8) (N := some 43) #[T_, T_, T_, T_, T_, T_, T_, T_, T_, F_, F_, F_, F_, F_, F_] rfl rfl (one_of HT_.out (by kernel_rfl)) (by decide) (fun K hK => ?_)
    refine goes_ Try.func46 (by kernel_rfl) rfl #[.pointer (some ⟨g, 0, none⟩), .int .i64 9] (by rfl) rfl rfl (by (try simp only [lm_, lo_, ln_]); first | done | rfl | (simp only [List.length_drop, List.length_take]; rfl)) ?_
    with_reducible refine (spec_l20Rd_pick.calls k1 g s0_0 t239 9 t240 t241 w0 _ ?side1 ?side2 A17.out).mono ?_
    (case side1 => repeat (first | (with_reducible first | exact HI0.out | apply IsS82.alloc | apply IsS82.drewN | apply IsS82.drew | apply IsS82.set_1 | refine IsS82.far ?_ NB0_230.out _ | refine IsS82.far ?_ NB0_235.out _) | exact HI0.out))
    (case side2 => repeat (first | (with_reducible first | exact HB.out | apply na_ | apply nn_ | apply nw_ | refine bs_ ?_ (IsS82.ge HI0.out) | refine bs_ ?_ GE230.out | refine bs_ ?_ GE235.out) | exact HB.out))
    rintro e w23 ⟨rfl, hi, hb, hk⟩
    refine ⟨_, rfl, ?_⟩
    have n0_ := mk_ (Kd.R_mono (Kd.R_keep (IsS82.apart (show IsS82 w0 _ g s0_0 t239 from by repeat (first | (with_reducible first | exact HI0.out | apply IsS82.alloc | apply IsS82.drewN | apply IsS82.drew | apply IsS82.set_1 | refine IsS82.far ?_ NB0_230.out _ | refine IsS82.far ?_ NB0_235.out _) | exact HI0.out)) (Kd.ur_ HO_236001.out) (by decide)) hk (fun _ h => h.2)) (fun _ h => h.1))
    have n1_ := mk_ (Kd.R_mono (Kd.R_keep (IsS82.apart (show IsS82 w0 _ g s0_0 t239 from by repeat (first | (with_reducible first | exact HI0.out | apply IsS82.alloc | apply IsS82.drewN | apply IsS82.drew | apply IsS82.set_1 | refine IsS82.far ?_ NB0_230.out _ | refine IsS82.far ?_ NB0_235.out _) | exact HI0.out)) (Kd.ur_ HO_236004.out) (by decide)) hk (fun _ h => h.2)) (fun _ h => h.1))
    have n2_ := mk_ (KeepBut.blk hk (g' := gb230) (o := .cells #[.int .i64 0, .slice none 0 0, .int .i64 0, .int .i64 0, .slice none 0 0] 51 (0, 0)) (u_ BK230.out) NB230_0.out (by simp))
    have n3_ := mk_ (KeepBut.blk hk (g' := gb235) (o := .cells #[.int .i64 x236000_1, .slice Ao22 x236001_1.length co22, .int .i64 x236002_1, .int .i64 x236003_1, u236004] 51 (0, 0)) (u_ BK235.out) NB235_0.out (by simp))
    have n4_ := mk_ (KeepBut.trans (by repeat (first | (with_reducible first | exact HK.out | apply KeepBut.set_ | apply keep_drewN | apply keep_drew | apply keep_alloc | refine keep_far ?_ GW230.out _ | refine keep_far ?_ GW235.out _) | exact HK.out)) hk (.inl rfl))
    have n5_ := mk_ (hb)
    have n6_ := mk_ (hi)
    clear HO_236001
    clear HO_236004
    clear BK230
    clear BK235
    clear HK
    clear HB
    clear HI0
    have HO_236001 := n0_
    have HO_236004 := n1_
    have BK230 := n2_
    have BK235 := n3_
    have HK := n4_
    have HB := n5_
    have HI0 := n6_
    clear n0_ n1_ n2_ n3_ n4_ n5_ n6_
    (try clear hb)
    (try clear hb2)
    (try clear hk)
    (try clear hi)
    refine hK.out _ _ ⟨(blk_cell BK235.out 0).trans rfl, (blk_cell BK235.out 1).trans rfl, (blk_cell BK235.out 2).trans rfl, (blk_cell BK235.out 3).trans rfl, (blk_cell BK235.out 4).trans rfl⟩ (fun hHeld => ?_)
    clear hK K
    refine norm_ (a' := ?_) ?_ ?_
    rotate_left
    ·show Act.put _ (some 43) _ = _
     simp only [Act.put, la_, lz_, ls_, i64_w, i32_w]
     rfl
    refine one_ (i := 9) (N := some 44) #[T_, T_, T_, T_, T_, T_, T_, T_, T_, T_, F_, F_, F_, F_, F_] rfl rfl (one_of HT_.out (by kernel_rfl)) (by decide) (fun K hK => ?_)
    refine goes_ Try.func73 (by kernel_rfl) rfl #[.int .i64 (wrap64 (x236000_1 + (x236001_1.length : Int))), .int .i64 t240] (by rfl) rfl rfl (by (try simp only [lm_, lo_, ln_]); first | done | rfl | (simp only [List.length_drop, List.length_take]; rfl)) ?_
    with_reducible refine (spec_l20Heard.calls k1 (wrap64 (x236000_1 + (x236001_1.length : Int))) t240 t242 _ A18.out).mono ?_
    rintro e w24 ⟨v243, rfl, ho0, hb⟩
    refine ⟨_, rfl, ?_⟩
    have n0_ := mk_ (Kd.R_elder' (Kd.ur_ HO_236001.out) (Kd.R_base ho0) hb)
    have n1_ := mk_ (Kd.R_below (Kd.ur_ HO_236004.out) hb)
    have n2_ := mk_ (Kd.R_lower (Kd.R_new' ho0 (Kd.R_lt (Kd.ur_ HO_236001.out))) (keep_size (w := w) (g := g) (row := none) (by repeat (first | (with_reducible first | exact HK.out | apply KeepBut.set_ | apply keep_drewN | apply keep_drew | apply keep_alloc | refine keep_far ?_ GW230.out _ | refine keep_far ?_ GW235.out _) | exact HK.out))))
    have n3_ := mk_ (blk_below (u_ BK230.out) hb)
    have n4_ := mk_ (blk_below (u_ BK235.out) hb)
    have n5_ := mk_ (IsS82.below (by repeat (first | (with_reducible first | exact HI0.out | apply IsS82.alloc | apply IsS82.drewN | apply IsS82.drew | apply IsS82.set_1 | refine IsS82.far ?_ NB0_230.out _ | refine IsS82.far ?_ NB0_235.out _) | exact HI0.out)) hb)
    have n6_ := mk_ (KeepBut.trans (by repeat (first | (with_reducible first | exact HK.out | apply KeepBut.set_ | apply keep_drewN | apply keep_drew | apply keep_alloc | refine keep_far ?_ GW230.out _ | refine keep_far ?_ GW235.out _) | exact HK.out)) (KeepBut.of_below hb g none) (.inl rfl))
    have n7_ := mk_ (below_step (by repeat (first | (with_reducible first | exact HB.out | apply na_ | apply nn_ | apply nw_ | refine bs_ ?_ (IsS82.ge HI0.out) | refine bs_ ?_ GE230.out | refine bs_ ?_ GE235.out) | exact HB.out)) hb)
    clear HO_236001
    clear HO_236004
    clear BK230
    clear BK235
    clear HI0
    clear HK
    clear HB
    have HO_236001 := n0_
    have HO_236004 := n1_
    have HO244 := n2_
    have BK230 := n3_
    have BK235 := n4_
    have HI0 := n5_
    have HK := n6_
    have HB := n7_
    clear n0_ n1_ n2_ n3_ n4_ n5_ n6_ n7_
    (try clear hb)
    (try clear hb2)
    (try clear hk)
    (try clear hi)
    (try clear ho0)
    obtain ⟨Ao25, co25, eo25⟩ := Kd.R_slice HO_236004.out
    (first | subst eo25 | (injection eo25 with f1_ f2_ f3_; have f4_ := f1_.symm; have f5_ := f3_.symm; clear f1_ f2_ f3_; subst f4_; subst f5_))
    obtain ⟨Ao26, co26, eo26⟩ := Kd.R_slice HO244.out
    (first | subst eo26 | (injection eo26 with f1_ f2_ f3_; have f4_ := f1_.symm; have f5_ := f3_.symm; clear f1_ f2_ f3_; subst f4_; subst f5_))
    refine hK.out _ _ ⟨(blk_cell BK235.out 0).trans rfl, (blk_cell BK235.out 1).trans rfl, (blk_cell BK235.out 2).trans rfl, (blk_cell BK235.out 3).trans rfl, (blk_cell BK235.out 4).trans rfl⟩ (fun hHeld => ?_)
    clear hK K
    refine norm_ (a' := ?_) ?_ ?_
    rotate_left
    ·show Act.put _ (some 44) _ = _
     simp only [Act.put, la_, lz_, ls_, i64_w, i32_w]
     rfl
    refine one_ (i := 10) (N := some 45) #[T_, T_, T_, T_, T_, T_, T_, T_, T_, T_, T_, F_, F_, F_, F_] rfl rfl (one_of HT_.out (by kernel_rfl)) (by decide) (fun K hK => ?_)
    refine goes_ Try.func72 (by kernel_rfl) rfl #[.agg #[.int .i64 x236000_1, .slice Ao22 x236001_1.length co22, .int .i64 x236002_1, .int .i64 x236003_1, .slice Ao25 x236004_1.length co25], .slice Ao26 t242.length co26] (by rfl) rfl rfl (by (try simp only [lm_, lo_, ln_]); first | done | rfl | (simp only [List.length_drop, List.length_take]; rfl)) ?_
    with_reducible refine (spec_MouthWrite.calls k1 x236000_1 _ _ x236001_1 x236002_1 x236003_1 _ _ x236004_1 _ _ t242 t245 t246 t249 t250 t251 t254 _ ?side1 ?side2 ?side3 ?side4 ?side5 ?side6 A19.out).mono ?_
    (case side1 => repeat (first | exact (Kd.R_reads' HO_236001.out).2.2 | (with_reducible refine Kd.C_alloc ?_ _) | (with_reducible refine Kd.C_drewN ?_ _) | (with_reducible refine Kd.C_drew ?_)))
    (case side2 => exact (Kd.R_reads' HO_236001.out).2.1)
    (case side3 => repeat (first | exact (Kd.R_reads' HO_236004.out).2.2 | (with_reducible refine Kd.C_alloc ?_ _) | (with_reducible refine Kd.C_drewN ?_ _) | (with_reducible refine Kd.C_drew ?_)))
    (case side4 => exact (Kd.R_reads' HO_236004.out).2.1)
    (case side5 => repeat (first | exact (Kd.R_reads' HO244.out).2.2 | (with_reducible refine Kd.C_alloc ?_ _) | (with_reducible refine Kd.C_drewN ?_ _) | (with_reducible refine Kd.C_drew ?_)))
    (case side6 => exact (Kd.R_reads' HO244.out).2.1)
    rintro e w27 ⟨v247, v252, rfl, ho0, ho1, hb⟩
    refine ⟨_, rfl, ?_⟩
    have n0_ := mk_ (Kd.R_elder' (Kd.ur_ HO_236001.out) (Kd.R_base ho0) hb)
    have n1_ := mk_ (Kd.R_elder' (Kd.ur_ HO_236004.out) (Kd.R_base ho1) hb)
    have n2_ := mk_ (Kd.R_elder' (Kd.ur_ HO244.out) (Kd.R_base ho0) hb)
    have n3_ := mk_ (Kd.R_lower (Kd.R_new' (Kd.R_new' ho0 (Kd.R_lt (Kd.ur_ HO_236001.out))) (Kd.R_lt (Kd.ur_ HO244.out))) (keep_size (w := w) (g := g) (row := none) (by repeat (first | (with_reducible first | exact HK.out | apply KeepBut.set_ | apply keep_drewN | apply keep_drew | apply keep_alloc | refine keep_far ?_ GW230.out _ | refine keep_far ?_ GW235.out _) | exact HK.out))))
    have n4_ := mk_ (Kd.R_lower (Kd.R_new' ho1 (Kd.R_lt (Kd.ur_ HO_236004.out))) (keep_size (w := w) (g := g) (row := none) (by repeat (first | (with_reducible first | exact HK.out | apply KeepBut.set_ | apply keep_drewN | apply keep_drew | apply keep_alloc | refine keep_far ?_ GW230.out _ | refine keep_far ?_ GW235.out _) | exact HK.out))))
    have n5_ := mk_ (blk_below (u_ BK230.out) hb)
    have n6_ := mk_ (blk_below (u_ BK235.out) hb)
    have n7_ := mk_ (IsS82.below (by repeat (first | (with_reducible first | exact HI0.out | apply IsS82.alloc | apply IsS82.drewN | apply IsS82.drew | apply IsS82.set_1 | refine IsS82.far ?_ NB0_230.out _ | refine IsS82.far ?_ NB0_235.out _) | exact HI0.out)) hb)
    have n8_ := mk_ (KeepBut.trans (by repeat (first | (with_reducible first | exact HK.out | apply KeepBut.set_ | apply keep_drewN | apply keep_drew | apply keep_alloc | refine keep_far ?_ GW230.out _ | refine keep_far ?_ GW235.out _) | exact HK.out)) (KeepBut.of_below hb g none) (.inl rfl))
    have n9_ := mk_ (below_step (by repeat (first | (with_reducible first | exact HB.out | apply na_ | apply nn_ | apply nw_ | refine bs_ ?_ (IsS82.ge HI0.out) | refine bs_ ?_ GE230.out | refine bs_ ?_ GE235.out) | exact HB.out)) hb)
    clear HO_236001
    clear HO_236004
    clear HO244
    clear BK230
    clear BK235
    clear HI0
    clear HK
    clear HB
    have HO_236001 := n0_
    have HO_236004 := n1_
    have HO244 := n2_
    have HO248 := n3_
    have HO253 := n4_
    have BK230 := n5_
    have BK235 := n6_
    have HI0 := n7_
    have HK := n8_
    have HB := n9_
    clear n0_ n1_ n2_ n3_ n4_ n5_ n6_ n7_ n8_ n9_
    (try clear hb)
    (try clear hb2)
    (try clear hk)
    (try clear hi)
    (try clear ho0)
    (try clear ho1)
    obtain ⟨Ao29, co29, eo29⟩ := Kd.R_slice HO248.out
    (first | subst eo29 | (injection eo29 with f1_ f2_ f3_; have f4_ := f1_.symm; have f5_ := f3_.symm; clear f1_ f2_ f3_; subst f4_; subst f5_))
    obtain ⟨Ao33, co33, eo33⟩ := Kd.R_slice HO253.out
    (first | subst eo33 | (injection eo33 with f1_ f2_ f3_; have f4_ := f1_.symm; have f5_ := f3_.symm; clear f1_ f2_ f3_; subst f4_; subst f5_))
    refine hK.out _ _ ⟨(blk_cell BK235.out 0).trans rfl, (blk_cell BK235.out 1).trans rfl, (blk_cell BK235.out 2).trans rfl, (blk_cell BK235.out 3).trans rfl, (blk_cell BK235.out 4).trans rfl⟩ (fun hHeld => ?_)
    clear hK K
    refine norm_ (a' := ?_) ?_ ?_
    rotate_left
    ·show Act.put _ (some 45) _ = _
     simp only [Act.put, la_, lz_, ls_, i64_w, i32_w]
     rfl
    refine pure_ (i := 11) (N := some 34) (v := ?_) (a' := ?_) #[T_, T_, T_, T_, T_, T_, T_, T_, T_, T_, T_, T_, F_, F_, F_] rfl rfl (any_of HT_.out (by kernel_rfl)) (fun _ _ _ h => h) (Or.inl ⟨by rfl, ?_⟩) ?_ ?_
    rotate_left
    ·intro w'
     go_simp
     with_reducible rfl
    rotate_left
    ·simp only [Act.put, la_, lz_, ls_, i64_w, i32_w]
     rfl
    refine pure_ (i := 12) (N := some 46) (v := ?_) (a' := ?_) #[T_, T_, T_, T_, T_, T_, T_, T_, T_, T_, T_, T_, T_, F_, F_] rfl rfl (any_of HT_.out (by kernel_rfl)) (fun _ _ _ h => h) (Or.inl ⟨by rfl, ?_⟩) ?_ ?_
    rotate_left
    ·intro w'
     go_simp
     with_reducible rfl
    rotate_left
    ·simp only [Act.put, la_, lz_, ls_, i64_w, i32_w]
     rfl
    refine pure_ (i := 13) (N := some 47) (v := ?_) (a' := ?_) #[T_, T_, T_, T_, T_, T_, T_, T_, T_, T_, T_, T_, T_, T_, F_] rfl rfl (any_of HT_.out (by kernel_rfl)) (fun _ _ _ h => h) (Or.inl ⟨by rfl, ?_⟩) ?_ ?_
    rotate_left
    ·intro w'
     go_simp
     with_reducible rfl
    rotate_left
    ·simp only [Act.put, la_, lz_, ls_, i64_w, i32_w]
     rfl
    refine last_ (i := 14) (N := none) #[T_, T_, T_, T_, T_, T_, T_, T_, T_, T_, T_, T_, T_, T_, T_] rfl rfl (one_of HT_.out (by kernel_rfl)) (by decide) (fun K hK => ?_)
    have hs28 : w27.cell? ⟨gb235, 0, none⟩ = some (.int .i64 x236000_1) := (blk_cell BK235.out 0).trans rfl
    have hfs28 := blk_frozen BK235.out 0
    have hns28_0 := NB230_235.out
    have hms28_0 := NB235_230.out
    have hs30 : w27.cell? ⟨gb235, 1, none⟩ = some (.slice Ao22 x236001_1.length co22) := (blk_cell BK235.out 1).trans rfl
    have hfs30 := blk_frozen BK235.out 1
    have hns30_0 := NB230_235.out
    have hms30_0 := NB235_230.out
    have hs31 : w27.cell? ⟨gb235, 2, none⟩ = some (.int .i64 x236002_1) := (blk_cell BK235.out 2).trans rfl
    have hfs31 := blk_frozen BK235.out 2
    have hns31_0 := NB230_235.out
    have hms31_0 := NB235_230.out
    have hs32 : w27.cell? ⟨gb235, 3, none⟩ = some (.int .i64 x236003_1) := (blk_cell BK235.out 3).trans rfl
    have hfs32 := blk_frozen BK235.out 3
    have hns32_0 := NB230_235.out
    have hms32_0 := NB235_230.out
    have hs34 : w27.cell? ⟨gb235, 4, none⟩ = some (.slice Ao25 x236004_1.length co25) := (blk_cell BK235.out 4).trans rfl
    have hfs34 := blk_frozen BK235.out 4
    have hns34_0 := NB230_235.out
    have hms34_0 := NB235_230.out
    refine skip_ (w1 := ?_) (by rfl) rfl ?_ ?_
    rotate_left
    ·go_simp
     rfl
    refine hK.out _ _ ?_
    clear hK K
    refine done_ (done_of HT_.out (by kernel_rfl)) ?_
    try go_wp2
    go_roundg k1
    case measure => have := HK1.out; omega
    case rel => exact ⟨(wrap64 (x6_1 - 1)), (t241), (t245), (t246), (t249), (t250), (t251), (.slice Ao29 t246.length co29), (.slice Ao33 t251.length co33), (by first | rfl | (simp; done) | (simp [*]; done)), H', ⟨by have := HK1.out; omega⟩, ⟨by (with_reducible repeat (first | apply Kd.R_alloc | apply Kd.R_drewN | apply Kd.R_drew)); exact Kd.R_mono (Kd.R_far (p := ⟨gb235, 4, none⟩) (Kd.R_far (p := ⟨gb235, 3, none⟩) (Kd.R_far (p := ⟨gb235, 2, none⟩) (Kd.R_far (p := ⟨gb235, 1, none⟩) (Kd.R_far (p := ⟨gb235, 0, none⟩) (Kd.R_types HO248.out BK235.out (by decide)) (fun _ hk => hk.2) (.int .i64 t245)) (fun _ hk => hk.2) (.slice Ao29 t246.length co29)) (fun _ hk => hk.2) (.int .i64 t249)) (fun _ hk => hk.2) (.int .i64 t250)) (fun _ hk => hk.2) (.slice Ao33 t251.length co33)) (fun _ hk => trivial)⟩, ⟨by (with_reducible repeat (first | apply Kd.R_alloc | apply Kd.R_drewN | apply Kd.R_drew)); exact Kd.R_mono (Kd.R_far (p := ⟨gb235, 4, none⟩) (Kd.R_far (p := ⟨gb235, 3, none⟩) (Kd.R_far (p := ⟨gb235, 2, none⟩) (Kd.R_far (p := ⟨gb235, 1, none⟩) (Kd.R_far (p := ⟨gb235, 0, none⟩) (Kd.R_types HO253.out BK235.out (by decide)) (fun _ hk => hk.2) (.int .i64 t245)) (fun _ hk => hk.2) (.slice Ao29 t246.length co29)) (fun _ hk => hk.2) (.int .i64 t249)) (fun _ hk => hk.2) (.int .i64 t250)) (fun _ hk => hk.2) (.slice Ao33 t251.length co33)) (fun _ hk => trivial)⟩, ⟨uf_ BK230.out⟩, ⟨by (with_reducible repeat (first | refine bn_ ?_ _ | refine bw_ ?_ | refine ba_ ?_ _)); refine blk_put (cs := #[.int .i64 t245, .slice Ao29 t246.length co29, .int .i64 t249, .int .i64 t250, .slice Ao25 x236004_1.length co25]) ?_ 4 _ rfl; (with_reducible repeat (first | refine bn_ ?_ _ | refine bw_ ?_ | refine ba_ ?_ _)); refine blk_put (cs := #[.int .i64 t245, .slice Ao29 t246.length co29, .int .i64 t249, .int .i64 x236003_1, .slice Ao25 x236004_1.length co25]) ?_ 3 _ rfl; (with_reducible repeat (first | refine bn_ ?_ _ | refine bw_ ?_ | refine ba_ ?_ _)); refine blk_put (cs := #[.int .i64 t245, .slice Ao29 t246.length co29, .int .i64 x236002_1, .int .i64 x236003_1, .slice Ao25 x236004_1.length co25]) ?_ 2 _ rfl; (with_reducible repeat (first | refine bn_ ?_ _ | refine bw_ ?_ | refine ba_ ?_ _)); refine blk_put (cs := #[.int .i64 t245, .slice Ao22 x236001_1.length co22, .int .i64 x236002_1, .int .i64 x236003_1, .slice Ao25 x236004_1.length co25]) ?_ 1 _ rfl; (with_reducible repeat (first | refine bn_ ?_ _ | refine bw_ ?_ | refine ba_ ?_ _)); refine blk_put (cs := #[.int .i64 x236000_1, .slice Ao22 x236001_1.length co22, .int .i64 x236002_1, .int .i64 x236003_1, .slice Ao25 x236004_1.length co25]) ?_ 0 _ rfl; (with_reducible repeat (first | refine bn_ ?_ _ | refine bw_ ?_ | refine ba_ ?_ _)); exact BK235.out⟩, ⟨by repeat (first | (with_reducible first | exact HI0.out | apply IsS82.alloc | apply IsS82.drewN | apply IsS82.drew | apply IsS82.set_1 | refine IsS82.far ?_ NB0_230.out _ | refine IsS82.far ?_ NB0_235.out _) | exact HI0.out)⟩, ⟨by repeat (first | (with_reducible first | exact HK.out | apply KeepBut.set_ | apply keep_drewN | apply keep_drew | apply keep_alloc | refine keep_far ?_ GW230.out _ | refine keep_far ?_ GW235.out _) | exact HK.out)⟩, ⟨by repeat (first | (with_reducible first | exact HB.out | apply na_ | apply nn_ | apply nw_ | refine bs_ ?_ (IsS82.ge HI0.out) | refine bs_ ?_ GE230.out | refine bs_ ?_ GE235.out) | exact HB.out)⟩⟩
   rw [if_neg c16] at H
   have c16b0 : (t238 == 0) = false := beq_eq_false_iff_ne.mpr c16
   have c16b1 : (t238 != 0) = true := bne_iff_ne.mpr c16
   by_cases c35 : t238 = 1
   rotate_left
   ·rw [if_neg c35] at H
    have c35b0 : (t238 == 1) = false := beq_eq_false_iff_ne.mpr c35
    have c35b1 : (t238 != 1) = true := bne_iff_ne.mpr c35
    replace H := Option.bind_eq_some_iff.mp H
    obtain ⟨⟨t280, t281⟩, A650, H⟩ := H
    replace H : ((spec_MouthNext.f k1 x236000_1 x236001_1 x236002_1 x236003_1 x236004_1 (wrap64 (1 + t280))).bind fun bt282 => (spec_l20Mouth.l0 k1 a1 (wrap64 (x6_1 - 1)) s0_0 t281 bt282.1 bt282.2.1 bt282.2.2.1 bt282.2.2.2.1 bt282.2.2.2.2.1)) = some (r1, r2, r3, r4, r5, r6) := H
    have A65 := mk_ A650
    clear A650
    replace H := Option.bind_eq_some_iff.mp H
    obtain ⟨⟨t282, t283, t286, t287, t288, t291, t292⟩, A660, H⟩ := H
    replace H : (spec_l20Mouth.l0 k1 a1 (wrap64 (x6_1 - 1)) s0_0 t281 t282 t283 t286 t287 t288) = some (r1, r2, r3, r4, r5, r6) := H
    have A66 := mk_ A660
    clear A660
    have H' := mk_ H
    clear H
    try go_wp2_with (first | ((with_reducible refine gate_callee (f := 46) rfl ?_); refine goesL_ (some 22) rfl rfl Try.func46 (by kernel_rfl) rfl #[.pointer (some ⟨g, 0, none⟩), .int .i64 4] rfl (by (try simp only [lm_, lo_, ln_]); first | done | rfl | (simp only [List.length_drop, List.length_take]; rfl)) ?_; (with_reducible refine (spec_l20Rd_pick.calls k1 g s0_0 x1001_1 4 t238 t239 w0 _ ?side1 ?side2 A15.out).mono ?_); (case side1 => repeat (first | (with_reducible first | exact HI0.out | apply IsS82.alloc | apply IsS82.drewN | apply IsS82.drew | apply IsS82.set_1 | refine IsS82.far ?_ NB0_230.out _ | refine IsS82.far ?_ NB0_235.out _) | exact HI0.out)); (case side2 => repeat (first | (with_reducible first | exact HB.out | apply na_ | apply nn_ | apply nw_ | refine bs_ ?_ (IsS82.ge HI0.out) | refine bs_ ?_ GE230.out | refine bs_ ?_ GE235.out) | exact HB.out)); rintro e w67 ⟨rfl, hi, hb, hk⟩; refine ⟨_, rfl, ?_⟩; have n0_ := mk_ (Kd.R_mono (Kd.R_keep (IsS82.apart (show IsS82 w0 _ g s0_0 x1001_1 from by repeat (first | (with_reducible first | exact HI0.out | apply IsS82.alloc | apply IsS82.drewN | apply IsS82.drew | apply IsS82.set_1 | refine IsS82.far ?_ NB0_230.out _ | refine IsS82.far ?_ NB0_235.out _) | exact HI0.out)) (Kd.ur_ HO_236001.out) (by decide)) hk (fun _ h => h.2)) (fun _ h => h.1)); have n1_ := mk_ (Kd.R_mono (Kd.R_keep (IsS82.apart (show IsS82 w0 _ g s0_0 x1001_1 from by repeat (first | (with_reducible first | exact HI0.out | apply IsS82.alloc | apply IsS82.drewN | apply IsS82.drew | apply IsS82.set_1 | refine IsS82.far ?_ NB0_230.out _ | refine IsS82.far ?_ NB0_235.out _) | exact HI0.out)) (Kd.ur_ HO_236004.out) (by decide)) hk (fun _ h => h.2)) (fun _ h => h.1)); have n2_ := mk_ (KeepBut.blk hk (g' := gb230) (o := .cells #[.int .i64 0, .slice none 0 0, .int .i64 0, .int .i64 0, .slice none 0 0] 51 (0, 0)) (u_ BK230.out) NB230_0.out (by simp)); have n3_ := mk_ (KeepBut.blk hk (g' := gb235) (o := .cells #[.int .i64 x236000_1, u236001, .int .i64 x236002_1, .int .i64 x236003_1, u236004] 51 (0, 0)) (u_ BK235.out) NB235_0.out (by simp)); have n4_ := mk_ (KeepBut.trans (by repeat (first | (with_reducible first | exact HK.out | apply KeepBut.set_ | apply keep_drewN | apply keep_drew | apply keep_alloc | refine keep_far ?_ GW230.out _ | refine keep_far ?_ GW235.out _) | exact HK.out)) hk (.inl rfl)); have n5_ := mk_ (hb); have n6_ := mk_ (hi); clear HO_236001; clear HO_236004; clear BK230; clear BK235; clear HK; clear HB; clear HI0; have HO_236001 := n0_; have HO_236004 := n1_; have BK230 := n2_; have BK235 := n3_; have HK := n4_; have HB := n5_; have HI0 := n6_; clear n0_ n1_ n2_ n3_ n4_ n5_ n6_; (try clear hb); (try clear hb2); (try clear hk); (try clear hi)))
    have n0_ := mk_ (Kd.R_drew HO_236001.out)
    have n1_ := mk_ (Kd.R_drew HO_236004.out)
    have n2_ := mk_ (blk_drew BK230.out)
    have n3_ := mk_ (blk_drew BK235.out)
    have n4_ := mk_ (IsS82.drew HI0.out)
    have n5_ := mk_ (keep_drew HK.out)
    have n6_ := mk_ (below_drew1 HB.out)
    clear HO_236001
    clear HO_236004
    clear BK230
    clear BK235
    clear HI0
    clear HK
    clear HB
    have HO_236001 := n0_
    have HO_236004 := n1_
    have BK230 := n2_
    have BK235 := n3_
    have HI0 := n4_
    have HK := n5_
    have HB := n6_
    clear n0_ n1_ n2_ n3_ n4_ n5_ n6_
    refine start_ (n := 10) (S := fun w' => w'.cell? ⟨gb235, 0, none⟩ = some (.int .i64 x236000_1) ∧ w'.cell? ⟨gb235, 1, none⟩ = some (u236001) ∧ w'.cell? ⟨gb235, 2, none⟩ = some (.int .i64 x236002_1) ∧ w'.cell? ⟨gb235, 3, none⟩ = some (.int .i64 x236003_1) ∧ w'.cell? ⟨gb235, 4, none⟩ = some (u236004)) (ds := [9]) #[F_, F_, F_, F_, F_, F_, F_, F_, F_, F_] (by kernel_rfl) rfl rfl ⟨(blk_cell BK235.out 0).trans rfl, (blk_cell BK235.out 1).trans rfl, (blk_cell BK235.out 2).trans rfl, (blk_cell BK235.out 3).trans rfl, (blk_cell BK235.out 4).trans rfl⟩ (fun hHeld => ?_); refine with_tabW spec_l20Mouth.tab6 spec_l20Mouth.bits6 (fun HT_ HW_ => ?_)
    generalize w67.drew = w68 at HO_236001 HO_236004 BK230 BK235 HI0 HK HB hHeld ⊢
    refine pure_ (i := 1) (N := some 25) (v := ?_) (a' := ?_) #[F_, T_, F_, F_, F_, F_, F_, F_, F_, F_] rfl rfl (any_of HT_.out (by kernel_rfl)) (fun _ _ _ h => h) (Or.inl ⟨by rfl, ?_⟩) ?_ ?_
    rotate_left
    ·intro w'
     go_simp
     with_reducible rfl
    rotate_left
    ·simp only [Act.put, la_, lz_, ls_, i64_w, i32_w]
     rfl
    refine take_ (i := 0) (N := some 24) (v := ?_) (a' := ?_) #[T_, T_, F_, F_, F_, F_, F_, F_, F_, F_] rfl rfl (take_ofW HT_.out HW_.out (by kernel_rfl)) (fun _ _ _ h => h) (Or.inl ⟨by rfl, ?_⟩) hHeld ?_ ?_
    rotate_left
    ·rintro w' ⟨s0, s1, s2, s3, s4⟩
     go_simp
     with_reducible rfl
    rotate_left
    ·simp only [Act.put, la_, lz_, ls_, i64_w, i32_w]
     rfl
    refine one_ (i := 2) (N := some 26) #[T_, T_, T_, F_, F_, F_, F_, F_, F_, F_] rfl rfl (one_of HT_.out (by kernel_rfl)) (by decide) (fun K hK => ?_)
    refine goes_ Try.func46 (by kernel_rfl) rfl #[.pointer (some ⟨g, 0, none⟩), .int .i64 8] (by rfl) rfl rfl (by (try simp only [lm_, lo_, ln_]); first | done | rfl | (simp only [List.length_drop, List.length_take]; rfl)) ?_
    with_reducible refine (spec_l20Rd_pick.calls k1 g s0_0 t239 8 t280 t281 w0 _ ?side1 ?side2 A65.out).mono ?_
    (case side1 => repeat (first | (with_reducible first | exact HI0.out | apply IsS82.alloc | apply IsS82.drewN | apply IsS82.drew | apply IsS82.set_1 | refine IsS82.far ?_ NB0_230.out _ | refine IsS82.far ?_ NB0_235.out _) | exact HI0.out))
    (case side2 => repeat (first | (with_reducible first | exact HB.out | apply na_ | apply nn_ | apply nw_ | refine bs_ ?_ (IsS82.ge HI0.out) | refine bs_ ?_ GE230.out | refine bs_ ?_ GE235.out) | exact HB.out))
    rintro e w69 ⟨rfl, hi, hb, hk⟩
    refine ⟨_, rfl, ?_⟩
    have n0_ := mk_ (Kd.R_mono (Kd.R_keep (IsS82.apart (show IsS82 w0 _ g s0_0 t239 from by repeat (first | (with_reducible first | exact HI0.out | apply IsS82.alloc | apply IsS82.drewN | apply IsS82.drew | apply IsS82.set_1 | refine IsS82.far ?_ NB0_230.out _ | refine IsS82.far ?_ NB0_235.out _) | exact HI0.out)) (Kd.ur_ HO_236001.out) (by decide)) hk (fun _ h => h.2)) (fun _ h => h.1))
    have n1_ := mk_ (Kd.R_mono (Kd.R_keep (IsS82.apart (show IsS82 w0 _ g s0_0 t239 from by repeat (first | (with_reducible first | exact HI0.out | apply IsS82.alloc | apply IsS82.drewN | apply IsS82.drew | apply IsS82.set_1 | refine IsS82.far ?_ NB0_230.out _ | refine IsS82.far ?_ NB0_235.out _) | exact HI0.out)) (Kd.ur_ HO_236004.out) (by decide)) hk (fun _ h => h.2)) (fun _ h => h.1))
    have n2_ := mk_ (KeepBut.blk hk (g' := gb230) (o := .cells #[.int .i64 0, .slice none 0 0, .int .i64 0, .int .i64 0, .slice none 0 0] 51 (0, 0)) (u_ BK230.out) NB230_0.out (by simp))
    have n3_ := mk_ (KeepBut.blk hk (g' := gb235) (o := .cells #[.int .i64 x236000_1, u236001, .int .i64 x236002_1, .int .i64 x236003_1, u236004] 51 (0, 0)) (u_ BK235.out) NB235_0.out (by simp))
    have n4_ := mk_ (KeepBut.trans (by repeat (first | (with_reducible first | exact HK.out | apply KeepBut.set_ | apply keep_drewN | apply keep_drew | apply keep_alloc | refine keep_far ?_ GW230.out _ | refine keep_far ?_ GW235.out _) | exact HK.out)) hk (.inl rfl))
    have n5_ := mk_ (hb)
    have n6_ := mk_ (hi)
    clear HO_236001
    clear HO_236004
    clear BK230
    clear BK235
    clear HK
    clear HB
    clear HI0
    have HO_236001 := n0_
    have HO_236004 := n1_
    have BK230 := n2_
    have BK235 := n3_
    have HK := n4_
    have HB := n5_
    have HI0 := n6_
    clear n0_ n1_ n2_ n3_ n4_ n5_ n6_
    (try clear hb)
    (try clear hb2)
    (try clear hk)
    (try clear hi)
    obtain ⟨Ao70, co70, eo70⟩ := Kd.R_slice HO_236001.out
    (first | subst eo70 | (injection eo70 with f1_ f2_ f3_; have f4_ := f1_.symm; have f5_ := f3_.symm; clear f1_ f2_ f3_; subst f4_; subst f5_))
    obtain ⟨Ao71, co71, eo71⟩ := Kd.R_slice HO_236004.out
    (first | subst eo71 | (injection eo71 with f1_ f2_ f3_; have f4_ := f1_.symm; have f5_ := f3_.symm; clear f1_ f2_ f3_; subst f4_; subst f5_))
    refine hK.out _ _ ⟨(blk_cell BK235.out 0).trans rfl, (blk_cell BK235.out 1).trans rfl, (blk_cell BK235.out 2).trans rfl, (blk_cell BK235.out 3).trans rfl, (blk_cell BK235.out 4).trans rfl⟩ (fun hHeld => ?_)
    clear hK K
    refine norm_ (a' := ?_) ?_ ?_
    rotate_left
    ·show Act.put _ (some 26) _ = _
     simp only [Act.put, la_, lz_, ls_, i64_w, i32_w]
     rfl
    refine pure_ (i := 3) (N := some 27) (v := ?_) (a' := ?_) #[T_, T_, T_, T_, F_, F_, F_, F_, F_, F_] rfl rfl (any_of HT_.out (by kernel_rfl)) (fun _ _ _ h => h) (Or.inl ⟨by rfl, ?_⟩) ?_ ?_
    rotate_left
    ·intro w'
     go_simp
     with_reducible rfl
    rotate_left
    ·simp only [Act.put, la_, lz_, ls_, i64_w, i32_w]
     rfl
    refine one_ (i := 4) (N := some 28) #[T_, T_, T_, T_, T_, F_, F_, F_, F_, F_] rfl rfl (one_of HT_.out (by kernel_rfl)) (by decide) (fun K hK => ?_)
    refine goes_ Try.func75 (by kernel_rfl) rfl #[.agg #[.int .i64 x236000_1, .slice Ao70 x236001_1.length co70, .int .i64 x236002_1, .int .i64 x236003_1, .slice Ao71 x236004_1.length co71], .int .i64 (wrap64 (1 + t280))] (by rfl) rfl rfl (by (try simp only [lm_, lo_, ln_]); first | done | rfl | (simp only [List.length_drop, List.length_take]; rfl)) ?_
    with_reducible refine (spec_MouthNext.calls k1 x236000_1 _ _ x236001_1 x236002_1 x236003_1 _ _ x236004_1 (wrap64 (1 + t280)) t282 t283 t286 t287 t288 t291 t292 _ ?side1 ?side2 ?side3 ?side4 A66.out).mono ?_
    (case side1 => repeat (first | exact (Kd.R_reads' HO_236001.out).2.2 | (with_reducible refine Kd.C_alloc ?_ _) | (with_reducible refine Kd.C_drewN ?_ _) | (with_reducible refine Kd.C_drew ?_)))
    (case side2 => exact (Kd.R_reads' HO_236001.out).2.1)
    (case side3 => repeat (first | exact (Kd.R_reads' HO_236004.out).2.2 | (with_reducible refine Kd.C_alloc ?_ _) | (with_reducible refine Kd.C_drewN ?_ _) | (with_reducible refine Kd.C_drew ?_)))
    (case side4 => exact (Kd.R_reads' HO_236004.out).2.1)
    rintro e w72 ⟨v284, v289, v293, rfl, ho0, ho1, ho2, hb⟩
    refine ⟨_, rfl, ?_⟩
    have n0_ := mk_ (Kd.R_mono (Kd.R_told (Kd.R_told (Kd.R_old (Kd.ur_ HO_236001.out) hb) (Kd.R_base ho0)) (Kd.R_base ho2)) (fun _ h_ => by first | exact h_.1 | simp only [h_, ne_eq, not_false_eq_true, and_self]))
    have n1_ := mk_ (Kd.R_elder' (Kd.ur_ HO_236004.out) (Kd.R_base ho1) hb)
    have n2_ := mk_ (Kd.R_lower (Kd.R_new' ho0 (Kd.R_lt (Kd.ur_ HO_236001.out))) (keep_size (w := w) (g := g) (row := none) (by repeat (first | (with_reducible first | exact HK.out | apply KeepBut.set_ | apply keep_drewN | apply keep_drew | apply keep_alloc | refine keep_far ?_ GW230.out _ | refine keep_far ?_ GW235.out _) | exact HK.out))))
    have n3_ := mk_ (Kd.R_lower (Kd.R_new' ho1 (Kd.R_lt (Kd.ur_ HO_236004.out))) (keep_size (w := w) (g := g) (row := none) (by repeat (first | (with_reducible first | exact HK.out | apply KeepBut.set_ | apply keep_drewN | apply keep_drew | apply keep_alloc | refine keep_far ?_ GW230.out _ | refine keep_far ?_ GW235.out _) | exact HK.out))))
    have n4_ := mk_ (Kd.R_lower (Kd.R_new' ho2 (Kd.R_lt (Kd.ur_ HO_236001.out))) (keep_size (w := w) (g := g) (row := none) (by repeat (first | (with_reducible first | exact HK.out | apply KeepBut.set_ | apply keep_drewN | apply keep_drew | apply keep_alloc | refine keep_far ?_ GW230.out _ | refine keep_far ?_ GW235.out _) | exact HK.out))))
    have n5_ := mk_ (blk_below (u_ BK230.out) hb)
    have n6_ := mk_ (blk_below (u_ BK235.out) hb)
    have n7_ := mk_ (IsS82.below (by repeat (first | (with_reducible first | exact HI0.out | apply IsS82.alloc | apply IsS82.drewN | apply IsS82.drew | apply IsS82.set_1 | refine IsS82.far ?_ NB0_230.out _ | refine IsS82.far ?_ NB0_235.out _) | exact HI0.out)) hb)
    have n8_ := mk_ (KeepBut.trans (by repeat (first | (with_reducible first | exact HK.out | apply KeepBut.set_ | apply keep_drewN | apply keep_drew | apply keep_alloc | refine keep_far ?_ GW230.out _ | refine keep_far ?_ GW235.out _) | exact HK.out)) (KeepBut.of_below hb g none) (.inl rfl))
    have n9_ := mk_ (below_step (by repeat (first | (with_reducible first | exact HB.out | apply na_ | apply nn_ | apply nw_ | refine bs_ ?_ (IsS82.ge HI0.out) | refine bs_ ?_ GE230.out | refine bs_ ?_ GE235.out) | exact HB.out)) hb)
    clear HO_236001
    clear HO_236004
    clear BK230
    clear BK235
    clear HI0
    clear HK
    clear HB
    have HO_236001 := n0_
    have HO_236004 := n1_
    have HO285 := n2_
    have HO290 := n3_
    have HO294 := n4_
    have BK230 := n5_
    have BK235 := n6_
    have HI0 := n7_
    have HK := n8_
    have HB := n9_
    clear n0_ n1_ n2_ n3_ n4_ n5_ n6_ n7_ n8_ n9_
    (try clear hb)
    (try clear hb2)
    (try clear hk)
    (try clear hi)
    (try clear ho0)
    (try clear ho1)
    (try clear ho2)
    obtain ⟨Ao74, co74, eo74⟩ := Kd.R_slice HO285.out
    (first | subst eo74 | (injection eo74 with f1_ f2_ f3_; have f4_ := f1_.symm; have f5_ := f3_.symm; clear f1_ f2_ f3_; subst f4_; subst f5_))
    obtain ⟨Ao78, co78, eo78⟩ := Kd.R_slice HO290.out
    (first | subst eo78 | (injection eo78 with f1_ f2_ f3_; have f4_ := f1_.symm; have f5_ := f3_.symm; clear f1_ f2_ f3_; subst f4_; subst f5_))
    refine hK.out _ _ ⟨(blk_cell BK235.out 0).trans rfl, (blk_cell BK235.out 1).trans rfl, (blk_cell BK235.out 2).trans rfl, (blk_cell BK235.out 3).trans rfl, (blk_cell BK235.out 4).trans rfl⟩ (fun hHeld => ?_)
    clear hK K
    refine norm_ (a' := ?_) ?_ ?_
    rotate_left
    ·show Act.put _ (some 28) _ = _
     simp only [Act.put, la_, lz_, ls_, i64_w, i32_w]
     rfl
    refine pure_ (i := 5) (N := some 23) (v := ?_) (a' := ?_) #[T_, T_, T_, T_, T_, T_, F_, F_, F_, F_] rfl rfl (any_of HT_.out (by kernel_rfl)) (fun _ _ _ h => h) (Or.inl ⟨by rfl, ?_⟩) ?_ ?_
    rotate_left
    ·intro w'
     go_simp
     with_reducible rfl
    rotate_left
    ·simp only [Act.put, la_, lz_, ls_, i64_w, i32_w]
     rfl
    refine pure_ (i := 6) (N := some 29) (v := ?_) (a' := ?_) #[T_, T_, T_, T_, T_, T_, T_, F_, F_, F_] rfl rfl (any_of HT_.out (by kernel_rfl)) (fun _ _ _ h => h) (Or.inl ⟨by rfl, ?_⟩) ?_ ?_
    rotate_left
    ·intro w'
     go_simp
     with_reducible rfl
    rotate_left
    ·simp only [Act.put, la_, lz_, ls_, i64_w, i32_w]
     rfl
    refine pure_ (i := 7) (N := some 30) (v := ?_) (a' := ?_) #[T_, T_, T_, T_, T_, T_, T_, T_, F_, F_] rfl rfl (any_of HT_.out (by kernel_rfl)) (fun _ _ _ h => h) (Or.inl ⟨by rfl, ?_⟩) ?_ ?_
    rotate_left
    ·intro w'
     go_simp
     with_reducible rfl
    rotate_left
    ·simp only [Act.put, la_, lz_, ls_, i64_w, i32_w]
     rfl
    refine pure_ (i := 8) (N := some 31) (v := ?_) (a' := ?_) #[T_, T_, T_, T_, T_, T_, T_, T_, T_, F_] rfl rfl (any_of HT_.out (by kernel_rfl)) (fun _ _ _ h => h) (Or.inl ⟨by rfl, ?_⟩) ?_ ?_
    rotate_left
    ·intro w'
     go_simp
     with_reducible rfl
    rotate_left
    ·simp only [Act.put, la_, lz_, ls_, i64_w, i32_w]
     rfl
    refine last_ (i := 9) (N := none) #[T_, T_, T_, T_, T_, T_, T_, T_, T_, T_] rfl rfl (one_of HT_.out (by kernel_rfl)) (by decide) (fun K hK => ?_)
    have hs73 : w72.cell? ⟨gb235, 0, none⟩ = some (.int .i64 x236000_1) := (blk_cell BK235.out 0).trans rfl
    have hfs73 := blk_frozen BK235.out 0
    have hns73_0 := NB230_235.out
    have hms73_0 := NB235_230.out
    have hs75 : w72.cell? ⟨gb235, 1, none⟩ = some (.slice Ao70 x236001_1.length co70) := (blk_cell BK235.out 1).trans rfl
    have hfs75 := blk_frozen BK235.out 1
    have hns75_0 := NB230_235.out
    have hms75_0 := NB235_230.out
    have hs76 : w72.cell? ⟨gb235, 2, none⟩ = some (.int .i64 x236002_1) := (blk_cell BK235.out 2).trans rfl
    have hfs76 := blk_frozen BK235.out 2
    have hns76_0 := NB230_235.out
    have hms76_0 := NB235_230.out
    have hs77 : w72.cell? ⟨gb235, 3, none⟩ = some (.int .i64 x236003_1) := (blk_cell BK235.out 3).trans rfl
    have hfs77 := blk_frozen BK235.out 3
    have hns77_0 := NB230_235.out
    have hms77_0 := NB235_230.out
    have hs79 : w72.cell? ⟨gb235, 4, none⟩ = some (.slice Ao71 x236004_1.length co71) := (blk_cell BK235.out 4).trans rfl
    have hfs79 := blk_frozen BK235.out 4
    have hns79_0 := NB230_235.out
    have hms79_0 := NB235_230.out
    refine skip_ (w1 := ?_) (by rfl) rfl ?_ ?_
    rotate_left
    ·go_simp
     rfl
    refine hK.out _ _ ?_
    clear hK K
    refine done_ (done_of HT_.out (by kernel_rfl)) ?_
    try go_wp2
    go_roundg k1
    case measure => have := HK1.out; omega
    case rel => exact ⟨(wrap64 (x6_1 - 1)), (t281), (t282), (t283), (t286), (t287), (t288), (.slice Ao74 t283.length co74), (.slice Ao78 t288.length co78), (by first | rfl | (simp; done) | (simp [*]; done)), H', ⟨by have := HK1.out; omega⟩, ⟨by (with_reducible repeat (first | apply Kd.R_alloc | apply Kd.R_drewN | apply Kd.R_drew)); exact Kd.R_mono (Kd.R_far (p := ⟨gb235, 4, none⟩) (Kd.R_far (p := ⟨gb235, 3, none⟩) (Kd.R_far (p := ⟨gb235, 2, none⟩) (Kd.R_far (p := ⟨gb235, 1, none⟩) (Kd.R_far (p := ⟨gb235, 0, none⟩) (Kd.R_types HO285.out BK235.out (by decide)) (fun _ hk => hk.2) (.int .i64 t282)) (fun _ hk => hk.2) (.slice Ao74 t283.length co74)) (fun _ hk => hk.2) (.int .i64 t286)) (fun _ hk => hk.2) (.int .i64 t287)) (fun _ hk => hk.2) (.slice Ao78 t288.length co78)) (fun _ hk => trivial)⟩, ⟨by (with_reducible repeat (first | apply Kd.R_alloc | apply Kd.R_drewN | apply Kd.R_drew)); exact Kd.R_mono (Kd.R_far (p := ⟨gb235, 4, none⟩) (Kd.R_far (p := ⟨gb235, 3, none⟩) (Kd.R_far (p := ⟨gb235, 2, none⟩) (Kd.R_far (p := ⟨gb235, 1, none⟩) (Kd.R_far (p := ⟨gb235, 0, none⟩) (Kd.R_types HO290.out BK235.out (by decide)) (fun _ hk => hk.2) (.int .i64 t282)) (fun _ hk => hk.2) (.slice Ao74 t283.length co74)) (fun _ hk => hk.2) (.int .i64 t286)) (fun _ hk => hk.2) (.int .i64 t287)) (fun _ hk => hk.2) (.slice Ao78 t288.length co78)) (fun _ hk => trivial)⟩, ⟨uf_ BK230.out⟩, ⟨by (with_reducible repeat (first | refine bn_ ?_ _ | refine bw_ ?_ | refine ba_ ?_ _)); refine blk_put (cs := #[.int .i64 t282, .slice Ao74 t283.length co74, .int .i64 t286, .int .i64 t287, .slice Ao71 x236004_1.length co71]) ?_ 4 _ rfl; (with_reducible repeat (first | refine bn_ ?_ _ | refine bw_ ?_ | refine ba_ ?_ _)); refine blk_put (cs := #[.int .i64 t282, .slice Ao74 t283.length co74, .int .i64 t286, .int .i64 x236003_1, .slice Ao71 x236004_1.length co71]) ?_ 3 _ rfl; (with_reducible repeat (first | refine bn_ ?_ _ | refine bw_ ?_ | refine ba_ ?_ _)); refine blk_put (cs := #[.int .i64 t282, .slice Ao74 t283.length co74, .int .i64 x236002_1, .int .i64 x236003_1, .slice Ao71 x236004_1.length co71]) ?_ 2 _ rfl; (with_reducible repeat (first | refine bn_ ?_ _ | refine bw_ ?_ | refine ba_ ?_ _)); refine blk_put (cs := #[.int .i64 t282, .slice Ao70 x236001_1.length co70, .int .i64 x236002_1, .int .i64 x236003_1, .slice Ao71 x236004_1.length co71]) ?_ 1 _ rfl; (with_reducible repeat (first | refine bn_ ?_ _ | refine bw_ ?_ | refine ba_ ?_ _)); refine blk_put (cs := #[.int .i64 x236000_1, .slice Ao70 x236001_1.length co70, .int .i64 x236002_1, .int .i64 x236003_1, .slice Ao71 x236004_1.length co71]) ?_ 0 _ rfl; (with_reducible repeat (first | refine bn_ ?_ _ | refine bw_ ?_ | refine ba_ ?_ _)); exact BK235.out⟩, ⟨by repeat (first | (with_reducible first | exact HI0.out | apply IsS82.alloc | apply IsS82.drewN | apply IsS82.drew | apply IsS82.set_1 | refine IsS82.far ?_ NB0_230.out _ | refine IsS82.far ?_ NB0_235.out _) | exact HI0.out)⟩, ⟨by repeat (first | (with_reducible first | exact HK.out | apply KeepBut.set_ | apply keep_drewN | apply keep_drew | apply keep_alloc | refine keep_far ?_ GW230.out _ | refine keep_far ?_ GW235.out _) | exact HK.out)⟩, ⟨by repeat (first | (with_reducible first | exact HB.out | apply na_ | apply nn_ | apply nw_ | refine bs_ ?_ (IsS82.ge HI0.out) | refine bs_ ?_ GE230.out | refine bs_ ?_ GE235.out) | exact HB.out)⟩⟩
   rw [if_pos c35] at H
   have c35b0 : (t238 == 1) = true := beq_iff_eq.mpr c35
   have c35b1 : (t238 != 1) = false := bne_eq_false_iff_eq.mpr c35
   clear c35
   replace H := Option.bind_eq_some_iff.mp H
   obtain ⟨⟨t255, t256⟩, A360, H⟩ := H
   replace H : ((spec_l20Rd_pick.f k1 s0_0 t256 30).bind fun bt257 => ((spec_l20Rd_pick.f k1 s0_0 bt257.2 4).bind fun bt259 => ((spec_l20Rd_pick.f k1 s0_0 bt259.2 6).bind fun bt261 => ((spec_l20Rd_pick.f k1 s0_0 bt261.2 4).bind fun bt263 => ((spec_l20Rd_pick.f k1 s0_0 bt263.2 9).bind fun bt265 => ((spec_MouthHear.f k1 x236000_1 x236001_1 x236002_1 x236003_1 x236004_1 (wrap64 (x236000_1 + t255)) bt257.1 (([(⟨wrap64 ((wrap64 ((wrap64 (x236000_1 + t255)) + 1)) + bt259.1), wrap64 ((wrap64 ((wrap64 (x236000_1 + t255)) + 2)) + bt261.1)⟩ : S72), (⟨wrap64 ((wrap64 ((wrap64 (x236000_1 + t255)) + 5)) + bt263.1), wrap64 ((wrap64 ((wrap64 (x236000_1 + t255)) + 6)) + bt265.1)⟩ : S72)] : List (S72)))).bind fun bt270 => (spec_l20Mouth.l0 k1 a1 (wrap64 (x6_1 - 1)) s0_0 bt265.2 bt270.1 bt270.2.1 bt270.2.2.1 bt270.2.2.2.1 bt270.2.2.2.2.1))))))) = some (r1, r2, r3, r4, r5, r6) := H
   have A36 := mk_ A360
   clear A360
   replace H := Option.bind_eq_some_iff.mp H
   obtain ⟨⟨t257, t258⟩, A370, H⟩ := H
   replace H : ((spec_l20Rd_pick.f k1 s0_0 t258 4).bind fun bt259 => ((spec_l20Rd_pick.f k1 s0_0 bt259.2 6).bind fun bt261 => ((spec_l20Rd_pick.f k1 s0_0 bt261.2 4).bind fun bt263 => ((spec_l20Rd_pick.f k1 s0_0 bt263.2 9).bind fun bt265 => ((spec_MouthHear.f k1 x236000_1 x236001_1 x236002_1 x236003_1 x236004_1 (wrap64 (x236000_1 + t255)) t257 (([(⟨wrap64 ((wrap64 ((wrap64 (x236000_1 + t255)) + 1)) + bt259.1), wrap64 ((wrap64 ((wrap64 (x236000_1 + t255)) + 2)) + bt261.1)⟩ : S72), (⟨wrap64 ((wrap64 ((wrap64 (x236000_1 + t255)) + 5)) + bt263.1), wrap64 ((wrap64 ((wrap64 (x236000_1 + t255)) + 6)) + bt265.1)⟩ : S72)] : List (S72)))).bind fun bt270 => (spec_l20Mouth.l0 k1 a1 (wrap64 (x6_1 - 1)) s0_0 bt265.2 bt270.1 bt270.2.1 bt270.2.2.1 bt270.2.2.2.1 bt270.2.2.2.2.1)))))) = some (r1, r2, r3, r4, r5, r6) := H
   have A37 := mk_ A370
   clear A370
   replace H := Option.bind_eq_some_iff.mp H
   obtain ⟨⟨t259, t260⟩, A380, H⟩ := H
   replace H : ((spec_l20Rd_pick.f k1 s0_0 t260 6).bind fun bt261 => ((spec_l20Rd_pick.f k1 s0_0 bt261.2 4).bind fun bt263 => ((spec_l20Rd_pick.f k1 s0_0 bt263.2 9).bind fun bt265 => ((spec_MouthHear.f k1 x236000_1 x236001_1 x236002_1 x236003_1 x236004_1 (wrap64 (x236000_1 + t255)) t257 (([(⟨wrap64 ((wrap64 ((wrap64 (x236000_1 + t255)) + 1)) + t259), wrap64 ((wrap64 ((wrap64 (x236000_1 + t255)) + 2)) + bt261.1)⟩ : S72), (⟨wrap64 ((wrap64 ((wrap64 (x236000_1 + t255)) + 5)) + bt263.1), wrap64 ((wrap64 ((wrap64 (x236000_1 + t255)) + 6)) + bt265.1)⟩ : S72)] : List (S72)))).bind fun bt270 => (spec_l20Mouth.l0 k1 a1 (wrap64 (x6_1 - 1)) s0_0 bt265.2 bt270.1 bt270.2.1 bt270.2.2.1 bt270.2.2.2.1 bt270.2.2.2.2.1))))) = some (r1, r2, r3, r4, r5, r6) := H
   have A38 := mk_ A380
   clear A380
   replace H := Option.bind_eq_some_iff.mp H
   obtain ⟨⟨t261, t262⟩, A390, H⟩ := H
   replace H : ((spec_l20Rd_pick.f k1 s0_0 t262 4).bind fun bt263 => ((spec_l20Rd_pick.f k1 s0_0 bt263.2 9).bind fun bt265 => ((spec_MouthHear.f k1 x236000_1 x236001_1 x236002_1 x236003_1 x236004_1 (wrap64 (x236000_1 + t255)) t257 (([(⟨wrap64 ((wrap64 ((wrap64 (x236000_1 + t255)) + 1)) + t259), wrap64 ((wrap64 ((wrap64 (x236000_1 + t255)) + 2)) + t261)⟩ : S72), (⟨wrap64 ((wrap64 ((wrap64 (x236000_1 + t255)) + 5)) + bt263.1), wrap64 ((wrap64 ((wrap64 (x236000_1 + t255)) + 6)) + bt265.1)⟩ : S72)] : List (S72)))).bind fun bt270 => (spec_l20Mouth.l0 k1 a1 (wrap64 (x6_1 - 1)) s0_0 bt265.2 bt270.1 bt270.2.1 bt270.2.2.1 bt270.2.2.2.1 bt270.2.2.2.2.1)))) = some (r1, r2, r3, r4, r5, r6) := H
   have A39 := mk_ A390
   clear A390
   replace H := Option.bind_eq_some_iff.mp H
   obtain ⟨⟨t263, t264⟩, A400, H⟩ := H
   replace H : ((spec_l20Rd_pick.f k1 s0_0 t264 9).bind fun bt265 => ((spec_MouthHear.f k1 x236000_1 x236001_1 x236002_1 x236003_1 x236004_1 (wrap64 (x236000_1 + t255)) t257 (([(⟨wrap64 ((wrap64 ((wrap64 (x236000_1 + t255)) + 1)) + t259), wrap64 ((wrap64 ((wrap64 (x236000_1 + t255)) + 2)) + t261)⟩ : S72), (⟨wrap64 ((wrap64 ((wrap64 (x236000_1 + t255)) + 5)) + t263), wrap64 ((wrap64 ((wrap64 (x236000_1 + t255)) + 6)) + bt265.1)⟩ : S72)] : List (S72)))).bind fun bt270 => (spec_l20Mouth.l0 k1 a1 (wrap64 (x6_1 - 1)) s0_0 bt265.2 bt270.1 bt270.2.1 bt270.2.2.1 bt270.2.2.2.1 bt270.2.2.2.2.1))) = some (r1, r2, r3, r4, r5, r6) := H
   have A40 := mk_ A400
   clear A400
   replace H := Option.bind_eq_some_iff.mp H
   obtain ⟨⟨t265, t266⟩, A410, H⟩ := H
   replace H : ((spec_MouthHear.f k1 x236000_1 x236001_1 x236002_1 x236003_1 x236004_1 (wrap64 (x236000_1 + t255)) t257 (([(⟨wrap64 ((wrap64 ((wrap64 (x236000_1 + t255)) + 1)) + t259), wrap64 ((wrap64 ((wrap64 (x236000_1 + t255)) + 2)) + t261)⟩ : S72), (⟨wrap64 ((wrap64 ((wrap64 (x236000_1 + t255)) + 5)) + t263), wrap64 ((wrap64 ((wrap64 (x236000_1 + t255)) + 6)) + t265)⟩ : S72)] : List (S72)))).bind fun bt270 => (spec_l20Mouth.l0 k1 a1 (wrap64 (x6_1 - 1)) s0_0 t266 bt270.1 bt270.2.1 bt270.2.2.1 bt270.2.2.2.1 bt270.2.2.2.2.1)) = some (r1, r2, r3, r4, r5, r6) := H
   have A41 := mk_ A410
   clear A410
   obtain ⟨y267, hy267⟩ : ∃ y_ : List (S72), y_ = (([(⟨wrap64 ((wrap64 ((wrap64 (x236000_1 + t255)) + 1)) + t259), wrap64 ((wrap64 ((wrap64 (x236000_1 + t255)) + 2)) + t261)⟩ : S72), (⟨wrap64 ((wrap64 ((wrap64 (x236000_1 + t255)) + 5)) + t263), wrap64 ((wrap64 ((wrap64 (x236000_1 + t255)) + 6)) + t265)⟩ : S72)] : List (S72))) := ⟨_, rfl⟩
   replace H : ((spec_MouthHear.f k1 x236000_1 x236001_1 x236002_1 x236003_1 x236004_1 (wrap64 (x236000_1 + t255)) t257 y267).bind fun bt270 => (spec_l20Mouth.l0 k1 a1 (wrap64 (x6_1 - 1)) s0_0 t266 bt270.1 bt270.2.1 bt270.2.2.1 bt270.2.2.2.1 bt270.2.2.2.2.1)) = some (r1, r2, r3, r4, r5, r6) := by first | (rw [hy267]; with_reducible exact H) | (have H2_ := (Option.bind_some _ _).symm.trans H; rw [hy267]; with_reducible exact H2_) | (have H2_ := (Option.bind_some _ _).symm.trans H; with_reducible exact H2_) | with_reducible exact H | (rw [hy267]; exact H) | exact H
   have Ny267 := mk_ hy267
   clear hy267
   replace H := Option.bind_eq_some_iff.mp H
   obtain ⟨⟨t270, t271, t274, t275, t276, t279⟩, A420, H⟩ := H
   replace H : (spec_l20Mouth.l0 k1 a1 (wrap64 (x6_1 - 1)) s0_0 t266 t270 t271 t274 t275 t276) = some (r1, r2, r3, r4, r5, r6) := H
   have A42 := mk_ A420
   clear A420
   have H' := mk_ H
   clear H
   try go_wp2_with (first | ((with_reducible refine gate_callee (f := 46) rfl ?_); refine goesL_ (some 22) rfl rfl Try.func46 (by kernel_rfl) rfl #[.pointer (some ⟨g, 0, none⟩), .int .i64 4] rfl (by (try simp only [lm_, lo_, ln_]); first | done | rfl | (simp only [List.length_drop, List.length_take]; rfl)) ?_; (with_reducible refine (spec_l20Rd_pick.calls k1 g s0_0 x1001_1 4 t238 t239 w0 _ ?side1 ?side2 A15.out).mono ?_); (case side1 => repeat (first | (with_reducible first | exact HI0.out | apply IsS82.alloc | apply IsS82.drewN | apply IsS82.drew | apply IsS82.set_1 | refine IsS82.far ?_ NB0_230.out _ | refine IsS82.far ?_ NB0_235.out _) | exact HI0.out)); (case side2 => repeat (first | (with_reducible first | exact HB.out | apply na_ | apply nn_ | apply nw_ | refine bs_ ?_ (IsS82.ge HI0.out) | refine bs_ ?_ GE230.out | refine bs_ ?_ GE235.out) | exact HB.out)); rintro e w43 ⟨rfl, hi, hb, hk⟩; refine ⟨_, rfl, ?_⟩; have n0_ := mk_ (Kd.R_mono (Kd.R_keep (IsS82.apart (show IsS82 w0 _ g s0_0 x1001_1 from by repeat (first | (with_reducible first | exact HI0.out | apply IsS82.alloc | apply IsS82.drewN | apply IsS82.drew | apply IsS82.set_1 | refine IsS82.far ?_ NB0_230.out _ | refine IsS82.far ?_ NB0_235.out _) | exact HI0.out)) (Kd.ur_ HO_236001.out) (by decide)) hk (fun _ h => h.2)) (fun _ h => h.1)); have n1_ := mk_ (Kd.R_mono (Kd.R_keep (IsS82.apart (show IsS82 w0 _ g s0_0 x1001_1 from by repeat (first | (with_reducible first | exact HI0.out | apply IsS82.alloc | apply IsS82.drewN | apply IsS82.drew | apply IsS82.set_1 | refine IsS82.far ?_ NB0_230.out _ | refine IsS82.far ?_ NB0_235.out _) | exact HI0.out)) (Kd.ur_ HO_236004.out) (by decide)) hk (fun _ h => h.2)) (fun _ h => h.1)); have n2_ := mk_ (KeepBut.blk hk (g' := gb230) (o := .cells #[.int .i64 0, .slice none 0 0, .int .i64 0, .int .i64 0, .slice none 0 0] 51 (0, 0)) (u_ BK230.out) NB230_0.out (by simp)); have n3_ := mk_ (KeepBut.blk hk (g' := gb235) (o := .cells #[.int .i64 x236000_1, u236001, .int .i64 x236002_1, .int .i64 x236003_1, u236004] 51 (0, 0)) (u_ BK235.out) NB235_0.out (by simp)); have n4_ := mk_ (KeepBut.trans (by repeat (first | (with_reducible first | exact HK.out | apply KeepBut.set_ | apply keep_drewN | apply keep_drew | apply keep_alloc | refine keep_far ?_ GW230.out _ | refine keep_far ?_ GW235.out _) | exact HK.out)) hk (.inl rfl)); have n5_ := mk_ (hb); have n6_ := mk_ (hi); clear HO_236001; clear HO_236004; clear BK230; clear BK235; clear HK; clear HB; clear HI0; have HO_236001 := n0_; have HO_236004 := n1_; have BK230 := n2_; have BK235 := n3_; have HK := n4_; have HB := n5_; have HI0 := n6_; clear n0_ n1_ n2_ n3_ n4_ n5_ n6_; (try clear hb); (try clear hb2); (try clear hk); (try clear hi)))
   have n0_ := mk_ (Kd.R_drew HO_236001.out)
   have n1_ := mk_ (Kd.R_drew HO_236004.out)
   have n2_ := mk_ (blk_drew BK230.out)
   have n3_ := mk_ (blk_drew BK235.out)
   have n4_ := mk_ (IsS82.drew HI0.out)
   have n5_ := mk_ (keep_drew HK.out)
   have n6_ := mk_ (below_drew1 HB.out)
   clear HO_236001
   clear HO_236004
   clear BK230
   clear BK235
   clear HI0
   clear HK
   clear HB
   have HO_236001 := n0_
   have HO_236004 := n1_
   have BK230 := n2_
   have BK235 := n3_
   have HI0 := n4_
   have HK := n5_
   have HB := n6_
   clear n0_ n1_ n2_ n3_ n4_ n5_ n6_
   refine start_ (n := 9) (S := fun w' => w'.cell? ⟨gb235, 0, none⟩ = some (.int .i64 x236000_1) ∧ w'.cell? ⟨gb235, 1, none⟩ = some (u236001) ∧ w'.cell? ⟨gb235, 2, none⟩ = some (.int .i64 x236002_1) ∧ w'.cell? ⟨gb235, 3, none⟩ = some (.int .i64 x236003_1) ∧ w'.cell? ⟨gb235, 4, none⟩ = some (u236004)) (ds := []) #[F_, F_, F_, F_, F_, F_, F_, F_, F_] (by kernel_rfl) rfl rfl ⟨(blk_cell BK235.out 0).trans rfl, (blk_cell BK235.out 1).trans rfl, (blk_cell BK235.out 2).trans rfl, (blk_cell BK235.out 3).trans rfl, (blk_cell BK235.out 4).trans rfl⟩ (fun hHeld => ?_); refine with_tabW spec_l20Mouth.tab10 spec_l20Mouth.bits10 (fun HT_ HW_ => ?_)
   generalize w43.drew = w44 at HO_236001 HO_236004 BK230 BK235 HI0 HK HB hHeld ⊢
   refine pure_ (i := 0) (N := some 50) (v := ?_) (a' := ?_) #[T_, F_, F_, F_, F_, F_, F_, F_, F_] rfl rfl (any_of HT_.out (by kernel_rfl)) (fun _ _ _ h => h) (Or.inl ⟨by rfl, ?_⟩) ?_ ?_
   rotate_left
   ·intro w'
    go_simp
    with_reducible rfl
   rotate_left
   ·simp only [Act.put, la_, lz_, ls_, i64_w, i32_w]
    rfl
   refine pure_ (i := 2) (N := some 52) (v := ?_) (a' := ?_) #[T_, F_, T_, F_, F_, F_, F_, F_, F_] rfl rfl (any_of HT_.out (by kernel_rfl)) (fun _ _ _ h => h) (Or.inl ⟨by rfl, ?_⟩) ?_ ?_
   rotate_left
   ·intro w'
    go_simp
    with_reducible rfl
   rotate_left
   ·simp only [Act.put, la_, lz_, ls_, i64_w, i32_w]
    rfl
   refine pure_ (i := 3) (N := some 53) (v := ?_) (a' := ?_) #[T_, F_, T_, T_, F_, F_, F_, F_, F_] rfl rfl (any_of HT_.out (by kernel_rfl)) (fun _ _ _ h => h) (Or.inl ⟨by rfl, ?_⟩) ?_ ?_
   rotate_left
   ·intro w'
    go_simp
    with_reducible rfl
   rotate_left
   ·simp only [Act.put, la_, lz_, ls_, i64_w, i32_w]
    rfl
   refine take_ (i := 1) (N := some 51) (v := ?_) (a' := ?_) #[T_, T_, T_, T_, F_, F_, F_, F_, F_] rfl rfl (take_ofW HT_.out HW_.out (by kernel_rfl)) (fun _ _ _ h => h) (Or.inl ⟨by rfl, ?_⟩) hHeld ?_ ?_
   rotate_left
   ·rintro w' ⟨s0, s1, s2, s3, s4⟩
    go_simp
    with_reducible rfl
   rotate_left
   ·simp only [Act.put, la_, lz_, ls_, i64_w, i32_w]
    rfl
   refine take_ (i := 4) (N := some 54) (v := ?_) (a' := ?_) #[T_, T_, T_, T_, T_, F_, F_, F_, F_] rfl rfl (take_ofW HT_.out HW_.out (by kernel_rfl)) (fun _ _ _ h => h) (Or.inl ⟨by rfl, ?_⟩) hHeld ?_ ?_
   rotate_left
   ·rintro w' ⟨s0, s1, s2, s3, s4⟩
    go_simp
    with_reducible rfl
   rotate_left
   ·simp only [Act.put, la_, lz_, ls_, i64_w, i32_w]
    rfl
   refine pure_ (i := 5) (N := some 55) (v := ?_) (a' := ?_) #[T_, T_, T_, T_, T_, T_, F_, F_, F_] rfl rfl (any_of HT_.out (by kernel_rfl)) (fun _ _ _ h => h) (Or.inl ⟨by rfl, ?_⟩) ?_ ?_
   rotate_left
   ·intro w'
    go_simp
    with_reducible rfl
   rotate_left
   ·simp only [Act.put, la_, lz_, ls_, i64_w, i32_w]
    rfl
   refine one_ (i := 6) (N := some 56) #[T_, T_, T_, T_, T_, T_, T_, F_, F_] rfl rfl (one_of HT_.out (by kernel_rfl)) (by decide) (fun K hK => ?_)
   refine goes_ Try.func46 (by kernel_rfl) rfl #[.pointer (some ⟨g, 0, none⟩), .int .i64 (wrap64 (x236002_1 + 1))] (by rfl) rfl rfl (by (try simp only [lm_, lo_, ln_]); first | done | rfl | (simp only [List.length_drop, List.length_take]; rfl)) ?_
   with_reducible refine (spec_l20Rd_pick.calls k1 g s0_0 t239 (wrap64 (x236002_1 + 1)) t255 t256 w0 _ ?side1 ?side2 A36.out).mono ?_
   (case side1 => repeat (first | (with_reducible first | exact HI0.out | apply IsS82.alloc | apply IsS82.drewN | apply IsS82.drew | apply IsS82.set_1 | refine IsS82.far ?_ NB0_230.out _ | refine IsS82.far ?_ NB0_235.out _) | exact HI0.out))
   (case side2 => repeat (first | (with_reducible first | exact HB.out | apply na_ | apply nn_ | apply nw_ | refine bs_ ?_ (IsS82.ge HI0.out) | refine bs_ ?_ GE230.out | refine bs_ ?_ GE235.out) | exact HB.out))
   rintro e w45 ⟨rfl, hi, hb, hk⟩
   refine ⟨_, rfl, ?_⟩
   have n0_ := mk_ (Kd.R_mono (Kd.R_keep (IsS82.apart (show IsS82 w0 _ g s0_0 t239 from by repeat (first | (with_reducible first | exact HI0.out | apply IsS82.alloc | apply IsS82.drewN | apply IsS82.drew | apply IsS82.set_1 | refine IsS82.far ?_ NB0_230.out _ | refine IsS82.far ?_ NB0_235.out _) | exact HI0.out)) (Kd.ur_ HO_236001.out) (by decide)) hk (fun _ h => h.2)) (fun _ h => h.1))
   have n1_ := mk_ (Kd.R_mono (Kd.R_keep (IsS82.apart (show IsS82 w0 _ g s0_0 t239 from by repeat (first | (with_reducible first | exact HI0.out | apply IsS82.alloc | apply IsS82.drewN | apply IsS82.drew | apply IsS82.set_1 | refine IsS82.far ?_ NB0_230.out _ | refine IsS82.far ?_ NB0_235.out _) | exact HI0.out)) (Kd.ur_ HO_236004.out) (by decide)) hk (fun _ h => h.2)) (fun _ h => h.1))
   have n2_ := mk_ (KeepBut.blk hk (g' := gb230) (o := .cells #[.int .i64 0, .slice none 0 0, .int .i64 0, .int .i64 0, .slice none 0 0] 51 (0, 0)) (u_ BK230.out) NB230_0.out (by simp))
   have n3_ := mk_ (KeepBut.blk hk (g' := gb235) (o := .cells #[.int .i64 x236000_1, u236001, .int .i64 x236002_1, .int .i64 x236003_1, u236004] 51 (0, 0)) (u_ BK235.out) NB235_0.out (by simp))
   have n4_ := mk_ (KeepBut.trans (by repeat (first | (with_reducible first | exact HK.out | apply KeepBut.set_ | apply keep_drewN | apply keep_drew | apply keep_alloc | refine keep_far ?_ GW230.out _ | refine keep_far ?_ GW235.out _) | exact HK.out)) hk (.inl rfl))
   have n5_ := mk_ (hb)
   have n6_ := mk_ (hi)
   clear HO_236001
   clear HO_236004
   clear BK230
   clear BK235
   clear HK
   clear HB
   clear HI0
   have HO_236001 := n0_
   have HO_236004 := n1_
   have BK230 := n2_
   have BK235 := n3_
   have HK := n4_
   have HB := n5_
   have HI0 := n6_
   clear n0_ n1_ n2_ n3_ n4_ n5_ n6_
   (try clear hb)
   (try clear hb2)
   (try clear hk)
   (try clear hi)
   refine hK.out _ _ ⟨(blk_cell BK235.out 0).trans rfl, (blk_cell BK235.out 1).trans rfl, (blk_cell BK235.out 2).trans rfl, (blk_cell BK235.out 3).trans rfl, (blk_cell BK235.out 4).trans rfl⟩ (fun hHeld => ?_)
   clear hK K
   refine norm_ (a' := ?_) ?_ ?_
   rotate_left
   ·show Act.put _ (some 56) _ = _
    simp only [Act.put, la_, lz_, ls_, i64_w, i32_w]
    rfl
   refine pure_ (i := 7) (N := some 57) (v := ?_) (a' := ?_) #[T_, T_, T_, T_, T_, T_, T_, T_, F_] rfl rfl (any_of HT_.out (by kernel_rfl)) (fun _ _ _ h => h) (Or.inl ⟨by rfl, ?_⟩) ?_ ?_
   rotate_left
   ·intro w'
    go_simp
    with_reducible rfl
   rotate_left
   ·simp only [Act.put, la_, lz_, ls_, i64_w, i32_w]
    rfl
   refine pure_ (i := 8) (N := some 7) (v := ?_) (a' := ?_) #[T_, T_, T_, T_, T_, T_, T_, T_, T_] rfl rfl (any_of HT_.out (by kernel_rfl)) (fun _ _ _ h => h) (Or.inl ⟨by rfl, ?_⟩) ?_ ?_
   rotate_left
   ·intro w'
    go_simp
    with_reducible rfl
   rotate_left
   ·simp only [Act.put, la_, lz_, ls_, i64_w, i32_w]
    rfl
   refine done_ (done_of HT_.out (by kernel_rfl)) ?_
   try go_wp2
   have n0_ := mk_ (Kd.R_drew HO_236001.out)
   have n1_ := mk_ (Kd.R_drew HO_236004.out)
   have n2_ := mk_ (blk_drew BK230.out)
   have n3_ := mk_ (blk_drew BK235.out)
   have n4_ := mk_ (IsS82.drew HI0.out)
   have n5_ := mk_ (keep_drew HK.out)
   have n6_ := mk_ (below_drew1 HB.out)
   clear HO_236001
   clear HO_236004
   clear BK230
   clear BK235
   clear HI0
   clear HK
   clear HB
   have HO_236001 := n0_
   have HO_236004 := n1_
   have BK230 := n2_
   have BK235 := n3_
   have HI0 := n4_
   have HK := n5_
   have HB := n6_
   clear n0_ n1_ n2_ n3_ n4_ n5_ n6_
   refine start_ (n := 32) (S := fun w' => w'.cell? ⟨gb235, 0, none⟩ = some (.int .i64 x236000_1) ∧ w'.cell? ⟨gb235, 1, none⟩ = some (u236001) ∧ w'.cell? ⟨gb235, 2, none⟩ = some (.int .i64 x236002_1) ∧ w'.cell? ⟨gb235, 3, none⟩ = some (.int .i64 x236003_1) ∧ w'.cell? ⟨gb235, 4, none⟩ = some (u236004)) (ds := [31]) #[F_, F_, F_, F_, F_, F_, F_, F_, F_, F_, F_, F_, F_, F_, F_, F_, F_, F_, F_, F_, F_, F_, F_, F_, F_, F_, F_, F_, F_, F_, F_, F_] (by kernel_rfl) rfl rfl ⟨(blk_cell BK235.out 0).trans rfl, (blk_cell BK235.out 1).trans rfl, (blk_cell BK235.out 2).trans rfl, (blk_cell BK235.out 3).trans rfl, (blk_cell BK235.out 4).trans rfl⟩ (fun hHeld => ?_); refine with_tabW spec_l20Mouth.tab11 spec_l20Mouth.bits11 (fun HT_ HW_ => ?_)
   generalize w45.drew = w46 at HO_236001 HO_236004 BK230 BK235 HI0 HK HB hHeld ⊢
   refine pure_ (i := 1) (N := some 60) (v := ?_) (a' := ?_) #[F_, T_, F_, F_, F_, F_, F_, F_, F_, F_, F_, F_, F_, F_, F_, F_, F_, F_, F_, F_, F_, F_, F_, F_, F_, F_, F_, F_, F_, F_, F_, F_] rfl rfl (any_of HT_.out (by kernel_rfl)) (fun _ _ _ h => h) (Or.inl ⟨by rfl, ?_⟩) ?_ ?_
   rotate_left
   ·intro w'
    go_simp
    with_reducible rfl
   rotate_left
   ·simp only [Act.put, la_, lz_, ls_, i64_w, i32_w]
    rfl
   refine pure_ (i := 2) (N := some 61) (v := ?_) (a' := ?_) #[F_, T_, T_, F_, F_, F_, F_, F_, F_, F_, F_, F_, F_, F_, F_, F_, F_, F_, F_, F_, F_, F_, F_, F_, F_, F_, F_, F_, F_, F_, F_, F_] rfl rfl (any_of HT_.out (by kernel_rfl)) (fun _ _ _ h => h) (Or.inl ⟨by rfl, ?_⟩) ?_ ?_
   rotate_left
   ·intro w'
    go_simp
    with_reducible rfl
   rotate_left
   ·simp only [Act.put, la_, lz_, ls_, i64_w, i32_w]
    rfl
   refine pure_ (i := 4) (N := some 63) (v := ?_) (a' := ?_) #[F_, T_, T_, F_, T_, F_, F_, F_, F_, F_, F_, F_, F_, F_, F_, F_, F_, F_, F_, F_, F_, F_, F_, F_, F_, F_, F_, F_, F_, F_, F_, F_] rfl rfl (any_of HT_.out (by kernel_rfl)) (fun _ _ _ h => h) (Or.inl ⟨by rfl, ?_⟩) ?_ ?_
   rotate_left
   ·intro w'
    go_simp
    with_reducible rfl
   rotate_left
   ·simp only [Act.put, la_, lz_, ls_, i64_w, i32_w]
    rfl
   refine pure_ (i := 5) (N := some 64) (v := ?_) (a' := ?_) #[F_, T_, T_, F_, T_, T_, F_, F_, F_, F_, F_, F_, F_, F_, F_, F_, F_, F_, F_, F_, F_, F_, F_, F_, F_, F_, F_, F_, F_, F_, F_, F_] rfl rfl (any_of HT_.out (by kernel_rfl)) (fun _ _ _ h => h) (Or.inl ⟨by rfl, ?_⟩) ?_ ?_
   rotate_left
   ·intro w'
    go_simp
    with_reducible rfl
   rotate_left
   ·simp only [Act.put, la_, lz_, ls_, i64_w, i32_w]
    rfl
   refine pure_ (i := 6) (N := some 65) (v := ?_) (a' := ?_) #[F_, T_, T_, F_, T_, T_, T_, F_, F_, F_, F_, F_, F_, F_, F_, F_, F_, F_, F_, F_, F_, F_, F_, F_, F_, F_, F_, F_, F_, F_, F_, F_] rfl rfl (any_of HT_.out (by kernel_rfl)) (fun _ _ _ h => h) (Or.inl ⟨by rfl, ?_⟩) ?_ ?_
   rotate_left
   ·intro w'
    go_simp
    with_reducible rfl
   rotate_left
   ·simp only [Act.put, la_, lz_, ls_, i64_w, i32_w]
    rfl
   refine pure_ (i := 9) (N := some 68) (v := ?_) (a' := ?_) #[F_, T_, T_, F_, T_, T_, T_, F_, F_, T_, F_, F_, F_, F_, F_, F_, F_, F_, F_, F_, F_, F_, F_, F_, F_, F_, F_, F_, F_, F_, F_, F_] rfl rfl (any_of HT_.out (by kernel_rfl)) (fun _ _ _ h => h) (Or.inl ⟨by rfl, ?_⟩) ?_ ?_
   rotate_left
   ·intro w'
    go_simp
    with_reducible rfl
   rotate_left
   ·simp only [Act.put, la_, lz_, ls_, i64_w, i32_w]
    rfl
   refine pure_ (i := 10) (N := some 69) (v := ?_) (a' := ?_) #[F_, T_, T_, F_, T_, T_, T_, F_, F_, T_, T_, F_, F_, F_, F_, F_, F_, F_, F_, F_, F_, F_, F_, F_, F_, F_, F_, F_, F_, F_, F_, F_] rfl rfl (any_of HT_.out (by kernel_rfl)) (fun _ _ _ h => h) (Or.inl ⟨by rfl, ?_⟩) ?_ ?_
   rotate_left
   ·intro w'
    go_simp
    with_reducible rfl
   rotate_left
   ·simp only [Act.put, la_, lz_, ls_, i64_w, i32_w]
    rfl
   refine pure_ (i := 11) (N := some 70) (v := ?_) (a' := ?_) #[F_, T_, T_, F_, T_, T_, T_, F_, F_, T_, T_, T_, F_, F_, F_, F_, F_, F_, F_, F_, F_, F_, F_, F_, F_, F_, F_, F_, F_, F_, F_, F_] rfl rfl (any_of HT_.out (by kernel_rfl)) (fun _ _ _ h => h) (Or.inl ⟨by rfl, ?_⟩) ?_ ?_
   rotate_left
   ·intro w'
    go_simp
    with_reducible rfl
   rotate_left
   ·simp only [Act.put, la_, lz_, ls_, i64_w, i32_w]
    rfl
   refine pure_ (i := 15) (N := some 74) (v := ?_) (a' := ?_) #[F_, T_, T_, F_, T_, T_, T_, F_, F_, T_, T_, T_, F_, F_, F_, T_, F_, F_, F_, F_, F_, F_, F_, F_, F_, F_, F_, F_, F_, F_, F_, F_] rfl rfl (any_of HT_.out (by kernel_rfl)) (fun _ _ _ h => h) (Or.inl ⟨by rfl, ?_⟩) ?_ ?_
   rotate_left
   ·intro w'
    go_simp
    with_reducible rfl
   rotate_left
   ·simp only [Act.put, la_, lz_, ls_, i64_w, i32_w]
    rfl
   refine pure_ (i := 16) (N := some 75) (v := ?_) (a' := ?_) #[F_, T_, T_, F_, T_, T_, T_, F_, F_, T_, T_, T_, F_, F_, F_, T_, T_, F_, F_, F_, F_, F_, F_, F_, F_, F_, F_, F_, F_, F_, F_, F_] rfl rfl (any_of HT_.out (by kernel_rfl)) (fun _ _ _ h => h) (Or.inl ⟨by rfl, ?_⟩) ?_ ?_
   rotate_left
   ·intro w'
    go_simp
    with_reducible rfl
   rotate_left
   ·simp only [Act.put, la_, lz_, ls_, i64_w, i32_w]
    rfl
   refine pure_ (i := 17) (N := some 76) (v := ?_) (a' := ?_) #[F_, T_, T_, F_, T_, T_, T_, F_, F_, T_, T_, T_, F_, F_, F_, T_, T_, T_, F_, F_, F_, F_, F_, F_, F_, F_, F_, F_, F_, F_, F_, F_] rfl rfl (any_of HT_.out (by kernel_rfl)) (fun _ _ _ h => h) (Or.inl ⟨by rfl, ?_⟩) ?_ ?_
   rotate_left
   ·intro w'
    go_simp
    with_reducible rfl
   rotate_left
   ·simp only [Act.put, la_, lz_, ls_, i64_w, i32_w]
    rfl
   refine pure_ (i := 20) (N := some 79) (v := ?_) (a' := ?_) #[F_, T_, T_, F_, T_, T_, T_, F_, F_, T_, T_, T_, F_, F_, F_, T_, T_, T_, F_, F_, T_, F_, F_, F_, F_, F_, F_, F_, F_, F_, F_, F_] rfl rfl (any_of HT_.out (by kernel_rfl)) (fun _ _ _ h => h) (Or.inl ⟨by rfl, ?_⟩) ?_ ?_
   rotate_left
   ·intro w'
    go_simp
    with_reducible rfl
   rotate_left
   ·simp only [Act.put, la_, lz_, ls_, i64_w, i32_w]
    rfl
   refine pure_ (i := 21) (N := some 80) (v := ?_) (a' := ?_) #[F_, T_, T_, F_, T_, T_, T_, F_, F_, T_, T_, T_, F_, F_, F_, T_, T_, T_, F_, F_, T_, T_, F_, F_, F_, F_, F_, F_, F_, F_, F_, F_] rfl rfl (any_of HT_.out (by kernel_rfl)) (fun _ _ _ h => h) (Or.inl ⟨by rfl, ?_⟩) ?_ ?_
   rotate_left
   ·intro w'
    go_simp
    with_reducible rfl
   rotate_left
   ·simp only [Act.put, la_, lz_, ls_, i64_w, i32_w]
    rfl
   refine pure_ (i := 22) (N := some 81) (v := ?_) (a' := ?_) #[F_, T_, T_, F_, T_, T_, T_, F_, F_, T_, T_, T_, F_, F_, F_, T_, T_, T_, F_, F_, T_, T_, T_, F_, F_, F_, F_, F_, F_, F_, F_, F_] rfl rfl (any_of HT_.out (by kernel_rfl)) (fun _ _ _ h => h) (Or.inl ⟨by rfl, ?_⟩) ?_ ?_
   rotate_left
   ·intro w'
    go_simp
    with_reducible rfl
   rotate_left
   ·simp only [Act.put, la_, lz_, ls_, i64_w, i32_w]
    rfl
   refine take_ (i := 0) (N := some 59) (v := ?_) (a' := ?_) #[T_, T_, T_, F_, T_, T_, T_, F_, F_, T_, T_, T_, F_, F_, F_, T_, T_, T_, F_, F_, T_, T_, T_, F_, F_, F_, F_, F_, F_, F_, F_, F_] rfl rfl (take_ofW HT_.out HW_.out (by kernel_rfl)) (fun _ _ _ h => h) (Or.inl ⟨by rfl, ?_⟩) hHeld ?_ ?_
   rotate_left
   ·rintro w' ⟨s0, s1, s2, s3, s4⟩
    go_simp
    with_reducible rfl
   rotate_left
   ·simp only [Act.put, la_, lz_, ls_, i64_w, i32_w]
    rfl
   refine one_ (i := 3) (N := some 62) #[T_, T_, T_, T_, T_, T_, T_, F_, F_, T_, T_, T_, F_, F_, F_, T_, T_, T_, F_, F_, T_, T_, T_, F_, F_, F_, F_, F_, F_, F_, F_, F_] rfl rfl (one_of HT_.out (by kernel_rfl)) (by decide) (fun K hK => ?_)
   refine goes_ Try.func46 (by kernel_rfl) rfl #[.pointer (some ⟨g, 0, none⟩), .int .i64 30] (by rfl) rfl rfl (by (try simp only [lm_, lo_, ln_]); first | done | rfl | (simp only [List.length_drop, List.length_take]; rfl)) ?_
   with_reducible refine (spec_l20Rd_pick.calls k1 g s0_0 t256 30 t257 t258 w0 _ ?side1 ?side2 A37.out).mono ?_
   (case side1 => repeat (first | (with_reducible first | exact HI0.out | apply IsS82.alloc | apply IsS82.drewN | apply IsS82.drew | apply IsS82.set_1 | refine IsS82.far ?_ NB0_230.out _ | refine IsS82.far ?_ NB0_235.out _) | exact HI0.out))
   (case side2 => repeat (first | (with_reducible first | exact HB.out | apply na_ | apply nn_ | apply nw_ | refine bs_ ?_ (IsS82.ge HI0.out) | refine bs_ ?_ GE230.out | refine bs_ ?_ GE235.out) | exact HB.out))
   rintro e w47 ⟨rfl, hi, hb, hk⟩
   refine ⟨_, rfl, ?_⟩
   have n0_ := mk_ (Kd.R_mono (Kd.R_keep (IsS82.apart (show IsS82 w0 _ g s0_0 t256 from by repeat (first | (with_reducible first | exact HI0.out | apply IsS82.alloc | apply IsS82.drewN | apply IsS82.drew | apply IsS82.set_1 | refine IsS82.far ?_ NB0_230.out _ | refine IsS82.far ?_ NB0_235.out _) | exact HI0.out)) (Kd.ur_ HO_236001.out) (by decide)) hk (fun _ h => h.2)) (fun _ h => h.1))
   have n1_ := mk_ (Kd.R_mono (Kd.R_keep (IsS82.apart (show IsS82 w0 _ g s0_0 t256 from by repeat (first | (with_reducible first | exact HI0.out | apply IsS82.alloc | apply IsS82.drewN | apply IsS82.drew | apply IsS82.set_1 | refine IsS82.far ?_ NB0_230.out _ | refine IsS82.far ?_ NB0_235.out _) | exact HI0.out)) (Kd.ur_ HO_236004.out) (by decide)) hk (fun _ h => h.2)) (fun _ h => h.1))
   have n2_ := mk_ (KeepBut.blk hk (g' := gb230) (o := .cells #[.int .i64 0, .slice none 0 0, .int .i64 0, .int .i64 0, .slice none 0 0] 51 (0, 0)) (u_ BK230.out) NB230_0.out (by simp))
   have n3_ := mk_ (KeepBut.blk hk (g' := gb235) (o := .cells #[.int .i64 x236000_1, u236001, .int .i64 x236002_1, .int .i64 x236003_1, u236004] 51 (0, 0)) (u_ BK235.out) NB235_0.out (by simp))
   have n4_ := mk_ (KeepBut.trans (by repeat (first | (with_reducible first | exact HK.out | apply KeepBut.set_ | apply keep_drewN | apply keep_drew | apply keep_alloc | refine keep_far ?_ GW230.out _ | refine keep_far ?_ GW235.out _) | exact HK.out)) hk (.inl rfl))
   have n5_ := mk_ (hb)
   have n6_ := mk_ (hi)
   clear HO_236001
   clear HO_236004
   clear BK230
   clear BK235
   clear HK
   clear HB
   clear HI0
   have HO_236001 := n0_
   have HO_236004 := n1_
   have BK230 := n2_
   have BK235 := n3_
   have HK := n4_
   have HB := n5_
   have HI0 := n6_
   clear n0_ n1_ n2_ n3_ n4_ n5_ n6_
   (try clear hb)
   (try clear hb2)
   (try clear hk)
   (try clear hi)
   refine hK.out _ _ ⟨(blk_cell BK235.out 0).trans rfl, (blk_cell BK235.out 1).trans rfl, (blk_cell BK235.out 2).trans rfl, (blk_cell BK235.out 3).trans rfl, (blk_cell BK235.out 4).trans rfl⟩ (fun hHeld => ?_)
   clear hK K
   refine norm_ (a' := ?_) ?_ ?_
   rotate_left
   ·show Act.put _ (some 62) _ = _
    simp only [Act.put, la_, lz_, ls_, i64_w, i32_w]
    rfl
   refine one_ (i := 7) (N := some 66) #[T_, T_, T_, T_, T_, T_, T_, T_, F_, T_, T_, T_, F_, F_, F_, T_, T_, T_, F_, F_, T_, T_, T_, F_, F_, F_, F_, F_, F_, F_, F_, F_] rfl rfl (one_of HT_.out (by kernel_rfl)) (by decide) (fun K hK => ?_)
   refine goes_ Try.func46 (by kernel_rfl) rfl #[.pointer (some ⟨g, 0, none⟩), .int .i64 4] (by rfl) rfl rfl (by (try simp only [lm_, lo_, ln_]); first | done | rfl | (simp only [List.length_drop, List.length_take]; rfl)) ?_
   with_reducible refine (spec_l20Rd_pick.calls k1 g s0_0 t258 4 t259 t260 w0 _ ?side1 ?side2 A38.out).mono ?_
   (case side1 => repeat (first | (with_reducible first | exact HI0.out | apply IsS82.alloc | apply IsS82.drewN | apply IsS82.drew | apply IsS82.set_1 | refine IsS82.far ?_ NB0_230.out _ | refine IsS82.far ?_ NB0_235.out _) | exact HI0.out))
   (case side2 => repeat (first | (with_reducible first | exact HB.out | apply na_ | apply nn_ | apply nw_ | refine bs_ ?_ (IsS82.ge HI0.out) | refine bs_ ?_ GE230.out | refine bs_ ?_ GE235.out) | exact HB.out))
   rintro e w48 ⟨rfl, hi, hb, hk⟩
   refine ⟨_, rfl, ?_⟩
   have n0_ := mk_ (Kd.R_mono (Kd.R_keep (IsS82.apart (show IsS82 w0 _ g s0_0 t258 from by repeat (first | (with_reducible first | exact HI0.out | apply IsS82.alloc | apply IsS82.drewN | apply IsS82.drew | apply IsS82.set_1 | refine IsS82.far ?_ NB0_230.out _ | refine IsS82.far ?_ NB0_235.out _) | exact HI0.out)) (Kd.ur_ HO_236001.out) (by decide)) hk (fun _ h => h.2)) (fun _ h => h.1))
   have n1_ := mk_ (Kd.R_mono (Kd.R_keep (IsS82.apart (show IsS82 w0 _ g s0_0 t258 from by repeat (first | (with_reducible first | exact HI0.out | apply IsS82.alloc | apply IsS82.drewN | apply IsS82.drew | apply IsS82.set_1 | refine IsS82.far ?_ NB0_230.out _ | refine IsS82.far ?_ NB0_235.out _) | exact HI0.out)) (Kd.ur_ HO_236004.out) (by decide)) hk (fun _ h => h.2)) (fun _ h => h.1))
   have n2_ := mk_ (KeepBut.blk hk (g' := gb230) (o := .cells #[.int .i64 0, .slice none 0 0, .int .i64 0, .int .i64 0, .slice none 0 0] 51 (0, 0)) (u_ BK230.out) NB230_0.out (by simp))
   have n3_ := mk_ (KeepBut.blk hk (g' := gb235) (o := .cells #[.int .i64 x236000_1, u236001, .int .i64 x236002_1, .int .i64 x236003_1, u236004] 51 (0, 0)) (u_ BK235.out) NB235_0.out (by simp))
   have n4_ := mk_ (KeepBut.trans (by repeat (first | (with_reducible first | exact HK.out | apply KeepBut.set_ | apply keep_drewN | apply keep_drew | apply keep_alloc | refine keep_far ?_ GW230.out _ | refine keep_far ?_ GW235.out _) | exact HK.out)) hk (.inl rfl))
   have n5_ := mk_ (hb)
   have n6_ := mk_ (hi)
   clear HO_236001
   clear HO_236004
   clear BK230
   clear BK235
   clear HK
   clear HB
   clear HI0
   have HO_236001 := n0_
   have HO_236004 := n1_
   have BK230 := n2_
   have BK235 := n3_
   have HK := n4_
   have HB := n5_
   have HI0 := n6_
   clear n0_ n1_ n2_ n3_ n4_ n5_ n6_
   (try clear hb)
   (try clear hb2)
   (try clear hk)
   (try clear hi)
   refine hK.out _ _ ⟨(blk_cell BK235.out 0).trans rfl, (blk_cell BK235.out 1).trans rfl, (blk_cell BK235.out 2).trans rfl, (blk_cell BK235.out 3).trans rfl, (blk_cell BK235.out 4).trans rfl⟩ (fun hHeld => ?_)
   clear hK K
   refine norm_ (a' := ?_) ?_ ?_
   rotate_left
   ·show Act.put _ (some 66) _ = _
    simp only [Act.put, la_, lz_, ls_, i64_w, i32_w]
    rfl
   refine pure_ (i := 8) (N := some 67) (v := ?_) (a' := ?_) #[T_, T_, T_, T_, T_, T_, T_, T_, T_, T_, T_, T_, F_, F_, F_, T_, T_, T_, F_, F_, T_, T_, T_, F_, F_, F_, F_, F_, F_, F_, F_, F_] rfl rfl (any_of HT_.out (by kernel_rfl)) (fun _ _ _ h => h) (Or.inl ⟨by rfl, ?_⟩) ?_ ?_
   rotate_left
   ·intro w'
    go_simp
    with_reducible rfl
   rotate_left
   ·simp only [Act.put, la_, lz_, ls_, i64_w, i32_w]
    rfl
   refine one_ (i := 12) (N := some 71) #[T_, T_, T_, T_, T_, T_, T_, T_, T_, T_, T_, T_, T_, F_, F_, T_, T_, T_, F_, F_, T_, T_, T_, F_, F_, F_, F_, F_, F_, F_, F_, F_] rfl rfl (one_of HT_.out (by kernel_rfl)) (by decide) (fun K hK => ?_)
   refine goes_ Try.func46 (by kernel_rfl) rfl #[.pointer (some ⟨g, 0, none⟩), .int .i64 6] (by rfl) rfl rfl (by (try simp only [lm_, lo_, ln_]); first | done | rfl | (simp only [List.length_drop, List.length_take]; rfl)) ?_
   with_reducible refine (spec_l20Rd_pick.calls k1 g s0_0 t260 6 t261 t262 w0 _ ?side1 ?side2 A39.out).mono ?_
   (case side1 => repeat (first | (with_reducible first | exact HI0.out | apply IsS82.alloc | apply IsS82.drewN | apply IsS82.drew | apply IsS82.set_1 | refine IsS82.far ?_ NB0_230.out _ | refine IsS82.far ?_ NB0_235.out _) | exact HI0.out))
   (case side2 => repeat (first | (with_reducible first | exact HB.out | apply na_ | apply nn_ | apply nw_ | refine bs_ ?_ (IsS82.ge HI0.out) | refine bs_ ?_ GE230.out | refine bs_ ?_ GE235.out) | exact HB.out))
   rintro e w49 ⟨rfl, hi, hb, hk⟩
   refine ⟨_, rfl, ?_⟩
   have n0_ := mk_ (Kd.R_mono (Kd.R_keep (IsS82.apart (show IsS82 w0 _ g s0_0 t260 from by repeat (first | (with_reducible first | exact HI0.out | apply IsS82.alloc | apply IsS82.drewN | apply IsS82.drew | apply IsS82.set_1 | refine IsS82.far ?_ NB0_230.out _ | refine IsS82.far ?_ NB0_235.out _) | exact HI0.out)) (Kd.ur_ HO_236001.out) (by decide)) hk (fun _ h => h.2)) (fun _ h => h.1))
   have n1_ := mk_ (Kd.R_mono (Kd.R_keep (IsS82.apart (show IsS82 w0 _ g s0_0 t260 from by repeat (first | (with_reducible first | exact HI0.out | apply IsS82.alloc | apply IsS82.drewN | apply IsS82.drew | apply IsS82.set_1 | refine IsS82.far ?_ NB0_230.out _ | refine IsS82.far ?_ NB0_235.out _) | exact HI0.out)) (Kd.ur_ HO_236004.out) (by decide)) hk (fun _ h => h.2)) (fun _ h => h.1))
   have n2_ := mk_ (KeepBut.blk hk (g' := gb230) (o := .cells #[.int .i64 0, .slice none 0 0, .int .i64 0, .int .i64 0, .slice none 0 0] 51 (0, 0)) (u_ BK230.out) NB230_0.out (by simp))
   have n3_ := mk_ (KeepBut.blk hk (g' := gb235) (o := .cells #[.int .i64 x236000_1, u236001, .int .i64 x236002_1, .int .i64 x236003_1, u236004] 51 (0, 0)) (u_ BK235.out) NB235_0.out (by simp))
   have n4_ := mk_ (KeepBut.trans (by repeat (first | (with_reducible first | exact HK.out | apply KeepBut.set_ | apply keep_drewN | apply keep_drew | apply keep_alloc | refine keep_far ?_ GW230.out _ | refine keep_far ?_ GW235.out _) | exact HK.out)) hk (.inl rfl))
   have n5_ := mk_ (hb)
   have n6_ := mk_ (hi)
   clear HO_236001
   clear HO_236004
   clear BK230
   clear BK235
   clear HK
   clear HB
   clear HI0
   have HO_236001 := n0_
   have HO_236004 := n1_
   have BK230 := n2_
   have BK235 := n3_
   have HK := n4_
   have HB := n5_
   have HI0 := n6_
   clear n0_ n1_ n2_ n3_ n4_ n5_ n6_
   (try clear hb)
   (try clear hb2)
   (try clear hk)
   (try clear hi)
   refine hK.out _ _ ⟨(blk_cell BK235.out 0).trans rfl, (blk_cell BK235.out 1).trans rfl, (blk_cell BK235.out 2).trans rfl, (blk_cell BK235.out 3).trans rfl, (blk_cell BK235.out 4).trans rfl⟩ (fun hHeld => ?_)
   clear hK K
   refine norm_ (a' := ?_) ?_ ?_
   rotate_left
   ·show Act.put _ (some 71) _ = _
    simp only [Act.put, la_, lz_, ls_, i64_w, i32_w]
    rfl
   refine pure_ (i := 13) (N := some 72) (v := ?_) (a' := ?_) #[T_, T_, T_, T_, T_, T_, T_, T_, T_, T_, T_, T_, T_, T_, F_, T_, T_, T_, F_, F_, T_, T_, T_, F_, F_, F_, F_, F_, F_, F_, F_, F_] rfl rfl (any_of HT_.out (by kernel_rfl)) (fun _ _ _ h => h) (Or.inl ⟨by rfl, ?_⟩) ?_ ?_
   rotate_left
   ·intro w'
    go_simp
    with_reducible rfl
   rotate_left
   ·simp only [Act.put, la_, lz_, ls_, i64_w, i32_w]
    rfl
   refine pure_ (i := 14) (N := some 73) (v := ?_) (a' := ?_) #[T_, T_, T_, T_, T_, T_, T_, T_, T_, T_, T_, T_, T_, T_, T_, T_, T_, T_, F_, F_, T_, T_, T_, F_, F_, F_, F_, F_, F_, F_, F_, F_] rfl rfl (any_of HT_.out (by kernel_rfl)) (fun _ _ _ h => h) (Or.inl ⟨by rfl, ?_⟩) ?_ ?_
   rotate_left
   ·intro w'
    go_simp
    with_reducible rfl
   rotate_left
   ·simp only [Act.put, la_, lz_, ls_, i64_w, i32_w]
    rfl
   refine one_ (i := 18) (N := some 77) #[T_, T_, T_, T_, T_, T_, T_, T_, T_, T_, T_, T_, T_, T_, T_, T_, T_, T_, T_, F_, T_, T_, T_, F_, F_, F_, F_, F_, F_, F_, F_, F_] rfl rfl (one_of HT_.out (by kernel_rfl)) (by decide) (fun K hK => ?_)
   refine goes_ Try.func46 (by kernel_rfl) rfl #[.pointer (some ⟨g, 0, none⟩), .int .i64 4] (by rfl) rfl rfl (by (try simp only [lm_, lo_, ln_]); first | done | rfl | (simp only [List.length_drop, List.length_take]; rfl)) ?_
   with_reducible refine (spec_l20Rd_pick.calls k1 g s0_0 t262 4 t263 t264 w0 _ ?side1 ?side2 A40.out).mono ?_
   (case side1 => repeat (first | (with_reducible first | exact HI0.out | apply IsS82.alloc | apply IsS82.drewN | apply IsS82.drew | apply IsS82.set_1 | refine IsS82.far ?_ NB0_230.out _ | refine IsS82.far ?_ NB0_235.out _) | exact HI0.out))
   (case side2 => repeat (first | (with_reducible first | exact HB.out | apply na_ | apply nn_ | apply nw_ | refine bs_ ?_ (IsS82.ge HI0.out) | refine bs_ ?_ GE230.out | refine bs_ ?_ GE235.out) | exact HB.out))
   rintro e w50 ⟨rfl, hi, hb, hk⟩
   refine ⟨_, rfl, ?_⟩
   have n0_ := mk_ (Kd.R_mono (Kd.R_keep (IsS82.apart (show IsS82 w0 _ g s0_0 t262 from by repeat (first | (with_reducible first | exact HI0.out | apply IsS82.alloc | apply IsS82.drewN | apply IsS82.drew | apply IsS82.set_1 | refine IsS82.far ?_ NB0_230.out _ | refine IsS82.far ?_ NB0_235.out _) | exact HI0.out)) (Kd.ur_ HO_236001.out) (by decide)) hk (fun _ h => h.2)) (fun _ h => h.1))
   have n1_ := mk_ (Kd.R_mono (Kd.R_keep (IsS82.apart (show IsS82 w0 _ g s0_0 t262 from by repeat (first | (with_reducible first | exact HI0.out | apply IsS82.alloc | apply IsS82.drewN | apply IsS82.drew | apply IsS82.set_1 | refine IsS82.far ?_ NB0_230.out _ | refine IsS82.far ?_ NB0_235.out _) | exact HI0.out)) (Kd.ur_ HO_236004.out) (by decide)) hk (fun _ h => h.2)) (fun _ h => h.1))
   have n2_ := mk_ (KeepBut.blk hk (g' := gb230) (o := .cells #[.int .i64 0, .slice none 0 0, .int .i64 0, .int .i64 0, .slice none 0 0] 51 (0, 0)) (u_ BK230.out) NB230_0.out (by simp))
   have n3_ := mk_ (KeepBut.blk hk (g' := gb235) (o := .cells #[.int .i64 x236000_1, u236001, .int .i64 x236002_1, .int .i64 x236003_1, u236004] 51 (0, 0)) (u_ BK235.out) NB235_0.out (by simp))
   have n4_ := mk_ (KeepBut.trans (by repeat (first | (with_reducible first | exact HK.out | apply KeepBut.set_ | apply keep_drewN | apply keep_drew | apply keep_alloc | refine keep_far ?_ GW230.out _ | refine keep_far ?_ GW235.out _) | exact HK.out)) hk (.inl rfl))
   have n5_ := mk_ (hb)
   have n6_ := mk_ (hi)
   clear HO_236001
   clear HO_236004
   clear BK230
   clear BK235
   clear HK
   clear HB
   clear HI0
   have HO_236001 := n0_
   have HO_236004 := n1_
   have BK230 := n2_
   have BK235 := n3_
   have HK := n4_
   have HB := n5_
   have HI0 := n6_
   clear n0_ n1_ n2_ n3_ n4_ n5_ n6_
   (try clear hb)
   (try clear hb2)
   (try clear hk)
   (try clear hi)
   refine hK.out _ _ ⟨(blk_cell BK235.out 0).trans rfl, (blk_cell BK235.out 1).trans rfl, (blk_cell BK235.out 2).trans rfl, (blk_cell BK235.out 3).trans rfl, (blk_cell BK235.out 4).trans rfl⟩ (fun hHeld => ?_)
   clear hK K
   refine norm_ (a' := ?_) ?_ ?_
   rotate_left
   ·show Act.put _ (some 77) _ = _
    simp only [Act.put, la_, lz_, ls_, i64_w, i32_w]
    rfl
   refine pure_ (i := 19) (N := some 78) (v := ?_) (a' := ?_) #[T_, T_, T_, T_, T_, T_, T_, T_, T_, T_, T_, T_, T_, T_, T_, T_, T_, T_, T_, T_, T_, T_, T_, F_, F_, F_, F_, F_, F_, F_, F_, F_] rfl rfl (any_of HT_.out (by kernel_rfl)) (fun _ _ _ h => h) (Or.inl ⟨by rfl, ?_⟩) ?_ ?_
   rotate_left
   ·intro w'
    go_simp
    with_reducible rfl
   rotate_left
   ·simp only [Act.put, la_, lz_, ls_, i64_w, i32_w]
    rfl
   refine one_ (i := 23) (N := some 82) #[T_, T_, T_, T_, T_, T_, T_, T_, T_, T_, T_, T_, T_, T_, T_, T_, T_, T_, T_, T_, T_, T_, T_, T_, F_, F_, F_, F_, F_, F_, F_, F_] rfl rfl (one_of HT_.out (by kernel_rfl)) (by decide) (fun K hK => ?_)
   refine goes_ Try.func46 (by kernel_rfl) rfl #[.pointer (some ⟨g, 0, none⟩), .int .i64 9] (by rfl) rfl rfl (by (try simp only [lm_, lo_, ln_]); first | done | rfl | (simp only [List.length_drop, List.length_take]; rfl)) ?_
   with_reducible refine (spec_l20Rd_pick.calls k1 g s0_0 t264 9 t265 t266 w0 _ ?side1 ?side2 A41.out).mono ?_
   (case side1 => repeat (first | (with_reducible first | exact HI0.out | apply IsS82.alloc | apply IsS82.drewN | apply IsS82.drew | apply IsS82.set_1 | refine IsS82.far ?_ NB0_230.out _ | refine IsS82.far ?_ NB0_235.out _) | exact HI0.out))
   (case side2 => repeat (first | (with_reducible first | exact HB.out | apply na_ | apply nn_ | apply nw_ | refine bs_ ?_ (IsS82.ge HI0.out) | refine bs_ ?_ GE230.out | refine bs_ ?_ GE235.out) | exact HB.out))
   rintro e w51 ⟨rfl, hi, hb, hk⟩
   refine ⟨_, rfl, ?_⟩
   have n0_ := mk_ (Kd.R_mono (Kd.R_keep (IsS82.apart (show IsS82 w0 _ g s0_0 t264 from by repeat (first | (with_reducible first | exact HI0.out | apply IsS82.alloc | apply IsS82.drewN | apply IsS82.drew | apply IsS82.set_1 | refine IsS82.far ?_ NB0_230.out _ | refine IsS82.far ?_ NB0_235.out _) | exact HI0.out)) (Kd.ur_ HO_236001.out) (by decide)) hk (fun _ h => h.2)) (fun _ h => h.1))
   have n1_ := mk_ (Kd.R_mono (Kd.R_keep (IsS82.apart (show IsS82 w0 _ g s0_0 t264 from by repeat (first | (with_reducible first | exact HI0.out | apply IsS82.alloc | apply IsS82.drewN | apply IsS82.drew | apply IsS82.set_1 | refine IsS82.far ?_ NB0_230.out _ | refine IsS82.far ?_ NB0_235.out _) | exact HI0.out)) (Kd.ur_ HO_236004.out) (by decide)) hk (fun _ h => h.2)) (fun _ h => h.1))
   have n2_ := mk_ (KeepBut.blk hk (g' := gb230) (o := .cells #[.int .i64 0, .slice none 0 0, .int .i64 0, .int .i64 0, .slice none 0 0] 51 (0, 0)) (u_ BK230.out) NB230_0.out (by simp))
   have n3_ := mk_ (KeepBut.blk hk (g' := gb235) (o := .cells #[.int .i64 x236000_1, u236001, .int .i64 x236002_1, .int .i64 x236003_1, u236004] 51 (0, 0)) (u_ BK235.out) NB235_0.out (by simp))
   have n4_ := mk_ (KeepBut.trans (by repeat (first | (with_reducible first | exact HK.out | apply KeepBut.set_ | apply keep_drewN | apply keep_drew | apply keep_alloc | refine keep_far ?_ GW230.out _ | refine keep_far ?_ GW235.out _) | exact HK.out)) hk (.inl rfl))
   have n5_ := mk_ (hb)
   have n6_ := mk_ (hi)
   clear HO_236001
   clear HO_236004
   clear BK230
   clear BK235
   clear HK
   clear HB
   clear HI0
   have HO_236001 := n0_
   have HO_236004 := n1_
   have BK230 := n2_
   have BK235 := n3_
   have HK := n4_
   have HB := n5_
   have HI0 := n6_
   clear n0_ n1_ n2_ n3_ n4_ n5_ n6_
   (try clear hb)
   (try clear hb2)
   (try clear hk)
   (try clear hi)
   refine hK.out _ _ ⟨(blk_cell BK235.out 0).trans rfl, (blk_cell BK235.out 1).trans rfl, (blk_cell BK235.out 2).trans rfl, (blk_cell BK235.out 3).trans rfl, (blk_cell BK235.out 4).trans rfl⟩ (fun hHeld => ?_)
   clear hK K
   refine norm_ (a' := ?_) ?_ ?_
   rotate_left
   ·show Act.put _ (some 82) _ = _
    simp only [Act.put, la_, lz_, ls_, i64_w, i32_w]
    rfl
   refine pure_ (i := 24) (N := some 83) (v := ?_) (a' := ?_) #[T_, T_, T_, T_, T_, T_, T_, T_, T_, T_, T_, T_, T_, T_, T_, T_, T_, T_, T_, T_, T_, T_, T_, T_, T_, F_, F_, F_, F_, F_, F_, F_] rfl rfl (any_of HT_.out (by kernel_rfl)) (fun _ _ _ h => h) (Or.inl ⟨by rfl, ?_⟩) ?_ ?_
   rotate_left
   ·intro w'
    go_simp
    with_reducible rfl
   rotate_left
   ·simp only [Act.put, la_, lz_, ls_, i64_w, i32_w]
    rfl
   refine pure_ (i := 25) (N := some 84) (v := ?_) (a' := ?_) #[T_, T_, T_, T_, T_, T_, T_, T_, T_, T_, T_, T_, T_, T_, T_, T_, T_, T_, T_, T_, T_, T_, T_, T_, T_, T_, F_, F_, F_, F_, F_, F_] rfl rfl (any_of HT_.out (by kernel_rfl)) (fun _ _ _ h => h) (Or.inl ⟨by rfl, ?_⟩) ?_ ?_
   rotate_left
   ·intro w'
    go_simp
    with_reducible rfl
   rotate_left
   ·simp only [Act.put, la_, lz_, ls_, i64_w, i32_w]
    rfl
   refine one_ (i := 26) (N := some 85) #[T_, T_, T_, T_, T_, T_, T_, T_, T_, T_, T_, T_, T_, T_, T_, T_, T_, T_, T_, T_, T_, T_, T_, T_, T_, T_, T_, F_, F_, F_, F_, F_] rfl rfl (one_of HT_.out (by kernel_rfl)) (by decide) (fun K hK => ?_)
   refine Kd.R_lit_step k72 _ 72 ?hg (N := 85) ?hd (xs := ([(⟨wrap64 ((wrap64 ((wrap64 (x236000_1 + t255)) + 1)) + t259), wrap64 ((wrap64 ((wrap64 (x236000_1 + t255)) + 2)) + t261)⟩ : S72), (⟨wrap64 ((wrap64 ((wrap64 (x236000_1 + t255)) + 5)) + t263), wrap64 ((wrap64 ((wrap64 (x236000_1 + t255)) + 6)) + t265)⟩ : S72)] : List (S72))) (inner := [.int .i64 (wrap64 ((wrap64 ((wrap64 (x236000_1 + t255)) + 1)) + t259)), .int .i64 (wrap64 ((wrap64 ((wrap64 (x236000_1 + t255)) + 2)) + t261)), .int .i64 (wrap64 ((wrap64 ((wrap64 (x236000_1 + t255)) + 5)) + t263)), .int .i64 (wrap64 ((wrap64 ((wrap64 (x236000_1 + t255)) + 6)) + t265))]) (ok := fun _ => True) (okp := fun _ => True) ?hr ?hp (fun _ hk => hk) trivial (Below.refl _ _) (Nat.le_refl _) (by simp) ?_; (case hd => rfl); (case hg => rfl); (case hr => first | (go_simp; done) | (go_simp; rfl)); (case hp => exact (Reps.c2 (show Kd.M k72 _ _ _ (⟨wrap64 ((wrap64 ((wrap64 (x236000_1 + t255)) + 1)) + t259), wrap64 ((wrap64 ((wrap64 (x236000_1 + t255)) + 2)) + t261)⟩ : S72) [.int .i64 (wrap64 ((wrap64 ((wrap64 (x236000_1 + t255)) + 1)) + t259)), .int .i64 (wrap64 ((wrap64 ((wrap64 (x236000_1 + t255)) + 2)) + t261))] from (k72_mkM _ _ _ (⟨wrap64 ((wrap64 ((wrap64 (x236000_1 + t255)) + 1)) + t259), wrap64 ((wrap64 ((wrap64 (x236000_1 + t255)) + 2)) + t261)⟩ : S72) )) (Reps.c2 (show Kd.M k72 _ _ _ (⟨wrap64 ((wrap64 ((wrap64 (x236000_1 + t255)) + 5)) + t263), wrap64 ((wrap64 ((wrap64 (x236000_1 + t255)) + 6)) + t265)⟩ : S72) [.int .i64 (wrap64 ((wrap64 ((wrap64 (x236000_1 + t255)) + 5)) + t263)), .int .i64 (wrap64 ((wrap64 ((wrap64 (x236000_1 + t255)) + 6)) + t265))] from (k72_mkM _ _ _ (⟨wrap64 ((wrap64 ((wrap64 (x236000_1 + t255)) + 5)) + t263), wrap64 ((wrap64 ((wrap64 (x236000_1 + t255)) + 6)) + t265)⟩ : S72) )) (Reps.none _ _))))
   intro v268 w52 ho53 hb hg_ hnew_
   clear hg_ hnew_
   (first | rw [← Ny267.out] at ho53 | (simp only [Int.reduceToNat] at ho53; rw [← Ny267.out] at ho53))
   have n0_ := mk_ (Kd.R_below (Kd.ur_ HO_236001.out) hb)
   have n1_ := mk_ (Kd.R_elder' (Kd.ur_ HO_236004.out) (Kd.R_base ho53) hb)
   have n2_ := mk_ (Kd.R_lower (Kd.R_new' ho53 (Kd.R_lt (Kd.ur_ HO_236004.out))) (keep_size (w := w) (g := g) (row := none) (by repeat (first | (with_reducible first | exact HK.out | apply KeepBut.set_ | apply keep_drewN | apply keep_drew | apply keep_alloc | refine keep_far ?_ GW230.out _ | refine keep_far ?_ GW235.out _) | exact HK.out))))
   have n3_ := mk_ (blk_below (u_ BK230.out) hb)
   have n4_ := mk_ (blk_below (u_ BK235.out) hb)
   have n5_ := mk_ (IsS82.below (by repeat (first | (with_reducible first | exact HI0.out | apply IsS82.alloc | apply IsS82.drewN | apply IsS82.drew | apply IsS82.set_1 | refine IsS82.far ?_ NB0_230.out _ | refine IsS82.far ?_ NB0_235.out _) | exact HI0.out)) hb)
   have n6_ := mk_ (KeepBut.trans (by repeat (first | (with_reducible first | exact HK.out | apply KeepBut.set_ | apply keep_drewN | apply keep_drew | apply keep_alloc | refine keep_far ?_ GW230.out _ | refine keep_far ?_ GW235.out _) | exact HK.out)) (KeepBut.of_below hb g none) (.inl rfl))
   have n7_ := mk_ (below_step (by repeat (first | (with_reducible first | exact HB.out | apply na_ | apply nn_ | apply nw_ | refine bs_ ?_ (IsS82.ge HI0.out) | refine bs_ ?_ GE230.out | refine bs_ ?_ GE235.out) | exact HB.out)) hb)
   clear HO_236001
   clear HO_236004
   clear BK230
   clear BK235
   clear HI0
   clear HK
   clear HB
   have HO_236001 := n0_
   have HO_236004 := n1_
   have HO269 := n2_
   have BK230 := n3_
   have BK235 := n4_
   have HI0 := n5_
   have HK := n6_
   have HB := n7_
   clear n0_ n1_ n2_ n3_ n4_ n5_ n6_ n7_
   clear hb ho53
   obtain ⟨Ao54, co54, eo54⟩ := Kd.R_slice HO_236001.out
   (first | subst eo54 | (injection eo54 with f1_ f2_ f3_; have f4_ := f1_.symm; have f5_ := f3_.symm; clear f1_ f2_ f3_; subst f4_; subst f5_))
   obtain ⟨Ao55, co55, eo55⟩ := Kd.R_slice HO_236004.out
   (first | subst eo55 | (injection eo55 with f1_ f2_ f3_; have f4_ := f1_.symm; have f5_ := f3_.symm; clear f1_ f2_ f3_; subst f4_; subst f5_))
   obtain ⟨Ao56, co56, eo56⟩ := Kd.R_slice HO269.out
   (first | subst eo56 | (injection eo56 with f1_ f2_ f3_; have f4_ := f1_.symm; have f5_ := f3_.symm; clear f1_ f2_ f3_; subst f4_; subst f5_))
   refine hK.out _ _ ⟨(blk_cell BK235.out 0).trans rfl, (blk_cell BK235.out 1).trans rfl, (blk_cell BK235.out 2).trans rfl, (blk_cell BK235.out 3).trans rfl, (blk_cell BK235.out 4).trans rfl⟩ (fun hHeld => ?_)
   clear hK K
   refine norm_ (a' := ?_) ?_ ?_
   rotate_left
   ·show Act.put _ (some 85) _ = _
    simp only [Act.put, la_, lz_, ls_, i64_w, i32_w]
    rfl
   refine one_ (i := 27) (N := some 86) #[T_, T_, T_, T_, T_, T_, T_, T_, T_, T_, T_, T_, T_, T_, T_, T_, T_, T_, T_, T_, T_, T_, T_, T_, T_, T_, T_, T_, F_, F_, F_, F_] rfl rfl (one_of HT_.out (by kernel_rfl)) (by decide) (fun K hK => ?_)
   refine goes_ Try.func74 (by kernel_rfl) rfl #[.agg #[.int .i64 x236000_1, .slice Ao54 x236001_1.length co54, .int .i64 x236002_1, .int .i64 x236003_1, .slice Ao55 x236004_1.length co55], .int .i64 (wrap64 (x236000_1 + t255)), .int .i64 t257, .slice Ao56 y267.length co56] (by rfl) rfl rfl (by (try simp only [lm_, lo_, ln_]); first | done | rfl | (simp only [List.length_drop, List.length_take]; rfl)) ?_
   with_reducible refine (spec_MouthHear.calls k1 x236000_1 _ _ x236001_1 x236002_1 x236003_1 _ _ x236004_1 (wrap64 (x236000_1 + t255)) t257 _ _ y267 t270 t271 t274 t275 t276 t279 _ ?side1 ?side2 ?side3 ?side4 ?side5 ?side6 A42.out).mono ?_
   (case side1 => repeat (first | exact (Kd.R_reads' HO_236001.out).2.2 | (with_reducible refine Kd.C_alloc ?_ _) | (with_reducible refine Kd.C_drewN ?_ _) | (with_reducible refine Kd.C_drew ?_)))
   (case side2 => exact (Kd.R_reads' HO_236001.out).2.1)
   (case side3 => repeat (first | exact (Kd.R_reads' HO_236004.out).2.2 | (with_reducible refine Kd.C_alloc ?_ _) | (with_reducible refine Kd.C_drewN ?_ _) | (with_reducible refine Kd.C_drew ?_)))
   (case side4 => exact (Kd.R_reads' HO_236004.out).2.1)
   (case side5 => repeat (first | exact (Kd.R_reads' HO269.out).2.2 | (with_reducible refine Kd.C_alloc ?_ _) | (with_reducible refine Kd.C_drewN ?_ _) | (with_reducible refine Kd.C_drew ?_)))
   (case side6 => exact (Kd.R_reads' HO269.out).2.1)
   rintro e w57 ⟨v272, v277, rfl, ho0, ho1, hb⟩
   refine ⟨_, rfl, ?_⟩
   have n0_ := mk_ (Kd.R_elder' (Kd.ur_ HO_236001.out) (Kd.R_base ho0) hb)
   have n1_ := mk_ (Kd.R_elder' (Kd.ur_ HO_236004.out) (Kd.R_base ho1) hb)
   have n2_ := mk_ (Kd.R_elder' (Kd.ur_ HO269.out) (Kd.R_base ho1) hb)
   have n3_ := mk_ (Kd.R_lower (Kd.R_new' ho0 (Kd.R_lt (Kd.ur_ HO_236001.out))) (keep_size (w := w) (g := g) (row := none) (by repeat (first | (with_reducible first | exact HK.out | apply KeepBut.set_ | apply keep_drewN | apply keep_drew | apply keep_alloc | refine keep_far ?_ GW230.out _ | refine keep_far ?_ GW235.out _) | exact HK.out))))
   have n4_ := mk_ (Kd.R_lower (Kd.R_new' (Kd.R_new' ho1 (Kd.R_lt (Kd.ur_ HO_236004.out))) (Kd.R_lt (Kd.ur_ HO269.out))) (keep_size (w := w) (g := g) (row := none) (by repeat (first | (with_reducible first | exact HK.out | apply KeepBut.set_ | apply keep_drewN | apply keep_drew | apply keep_alloc | refine keep_far ?_ GW230.out _ | refine keep_far ?_ GW235.out _) | exact HK.out))))
   have n5_ := mk_ (blk_below (u_ BK230.out) hb)
   have n6_ := mk_ (blk_below (u_ BK235.out) hb)
   have n7_ := mk_ (IsS82.below (by repeat (first | (with_reducible first | exact HI0.out | apply IsS82.alloc | apply IsS82.drewN | apply IsS82.drew | apply IsS82.set_1 | refine IsS82.far ?_ NB0_230.out _ | refine IsS82.far ?_ NB0_235.out _) | exact HI0.out)) hb)
   have n8_ := mk_ (KeepBut.trans (by repeat (first | (with_reducible first | exact HK.out | apply KeepBut.set_ | apply keep_drewN | apply keep_drew | apply keep_alloc | refine keep_far ?_ GW230.out _ | refine keep_far ?_ GW235.out _) | exact HK.out)) (KeepBut.of_below hb g none) (.inl rfl))
   have n9_ := mk_ (below_step (by repeat (first | (with_reducible first | exact HB.out | apply na_ | apply nn_ | apply nw_ | refine bs_ ?_ (IsS82.ge HI0.out) | refine bs_ ?_ GE230.out | refine bs_ ?_ GE235.out) | exact HB.out)) hb)
   clear HO_236001
   clear HO_236004
   clear HO269
   clear BK230
   clear BK235
   clear HI0
   clear HK
   clear HB
   have HO_236001 := n0_
   have HO_236004 := n1_
   have HO269 := n2_
   have HO273 := n3_
   have HO278 := n4_
   have BK230 := n5_
   have BK235 := n6_
   have HI0 := n7_
   have HK := n8_
   have HB := n9_
   clear n0_ n1_ n2_ n3_ n4_ n5_ n6_ n7_ n8_ n9_
   (try clear hb)
   (try clear hb2)
   (try clear hk)
   (try clear hi)
   (try clear ho0)
   (try clear ho1)
   obtain ⟨Ao59, co59, eo59⟩ := Kd.R_slice HO273.out
   (first | subst eo59 | (injection eo59 with f1_ f2_ f3_; have f4_ := f1_.symm; have f5_ := f3_.symm; clear f1_ f2_ f3_; subst f4_; subst f5_))
   obtain ⟨Ao63, co63, eo63⟩ := Kd.R_slice HO278.out
   (first | subst eo63 | (injection eo63 with f1_ f2_ f3_; have f4_ := f1_.symm; have f5_ := f3_.symm; clear f1_ f2_ f3_; subst f4_; subst f5_))
   refine hK.out _ _ ⟨(blk_cell BK235.out 0).trans rfl, (blk_cell BK235.out 1).trans rfl, (blk_cell BK235.out 2).trans rfl, (blk_cell BK235.out 3).trans rfl, (blk_cell BK235.out 4).trans rfl⟩ (fun hHeld => ?_)
   clear hK K
   refine norm_ (a' := ?_) ?_ ?_
   rotate_left
   ·show Act.put _ (some 86) _ = _
    simp only [Act.put, la_, lz_, ls_, i64_w, i32_w]
    rfl
   refine pure_ (i := 28) (N := some 58) (v := ?_) (a' := ?_) #[T_, T_, T_, T_, T_, T_, T_, T_, T_, T_, T_, T_, T_, T_, T_, T_, T_, T_, T_, T_, T_, T_, T_, T_, T_, T_, T_, T_, T_, F_, F_, F_] rfl rfl (any_of HT_.out (by kernel_rfl)) (fun _ _ _ h => h) (Or.inl ⟨by rfl, ?_⟩) ?_ ?_
   rotate_left
   ·intro w'
    go_simp
    with_reducible rfl
   rotate_left
   ·simp only [Act.put, la_, lz_, ls_, i64_w, i32_w]
    rfl
   refine pure_ (i := 29) (N := some 87) (v := ?_) (a' := ?_) #[T_, T_, T_, T_, T_, T_, T_, T_, T_, T_, T_, T_, T_, T_, T_, T_, T_, T_, T_, T_, T_, T_, T_, T_, T_, T_, T_, T_, T_, T_, F_, F_] rfl rfl (any_of HT_.out (by kernel_rfl)) (fun _ _ _ h => h) (Or.inl ⟨by rfl, ?_⟩) ?_ ?_
   rotate_left
   ·intro w'
    go_simp
    with_reducible rfl
   rotate_left
   ·simp only [Act.put, la_, lz_, ls_, i64_w, i32_w]
    rfl
   refine pure_ (i := 30) (N := some 88) (v := ?_) (a' := ?_) #[T_, T_, T_, T_, T_, T_, T_, T_, T_, T_, T_, T_, T_, T_, T_, T_, T_, T_, T_, T_, T_, T_, T_, T_, T_, T_, T_, T_, T_, T_, T_, F_] rfl rfl (any_of HT_.out (by kernel_rfl)) (fun _ _ _ h => h) (Or.inl ⟨by rfl, ?_⟩) ?_ ?_
   rotate_left
   ·intro w'
    go_simp
    with_reducible rfl
   rotate_left
   ·simp only [Act.put, la_, lz_, ls_, i64_w, i32_w]
    rfl
   refine last_ (i := 31) (N := none) #[T_, T_, T_, T_, T_, T_, T_, T_, T_, T_, T_, T_, T_, T_, T_, T_, T_, T_, T_, T_, T_, T_, T_, T_, T_, T_, T_, T_, T_, T_, T_, T_] rfl rfl (one_of HT_.out (by kernel_rfl)) (by decide) (fun K hK => ?_)
   have hs58 : w57.cell? ⟨gb235, 0, none⟩ = some (.int .i64 x236000_1) := (blk_cell BK235.out 0).trans rfl
   have hfs58 := blk_frozen BK235.out 0
   have hns58_0 := NB230_235.out
   have hms58_0 := NB235_230.out
   have hs60 : w57.cell? ⟨gb235, 1, none⟩ = some (.slice Ao54 x236001_1.length co54) := (blk_cell BK235.out 1).trans rfl
   have hfs60 := blk_frozen BK235.out 1
   have hns60_0 := NB230_235.out
   have hms60_0 := NB235_230.out
   have hs61 : w57.cell? ⟨gb235, 2, none⟩ = some (.int .i64 x236002_1) := (blk_cell BK235.out 2).trans rfl
   have hfs61 := blk_frozen BK235.out 2
   have hns61_0 := NB230_235.out
   have hms61_0 := NB235_230.out
   have hs62 : w57.cell? ⟨gb235, 3, none⟩ = some (.int .i64 x236003_1) := (blk_cell BK235.out 3).trans rfl
   have hfs62 := blk_frozen BK235.out 3
   have hns62_0 := NB230_235.out
   have hms62_0 := NB235_230.out
   have hs64 : w57.cell? ⟨gb235, 4, none⟩ = some (.slice Ao55 x236004_1.length co55) := (blk_cell BK235.out 4).trans rfl
   have hfs64 := blk_frozen BK235.out 4
   have hns64_0 := NB230_235.out
   have hms64_0 := NB235_230.out
   refine skip_ (w1 := ?_) (by rfl) rfl ?_ ?_
   rotate_left
   ·go_simp
    rfl
   refine hK.out _ _ ?_
   clear hK K
   refine done_ (done_of HT_.out (by kernel_rfl)) ?_
   try go_wp2
   go_roundg k1
   case measure => have := HK1.out; omega
   case rel => exact ⟨(wrap64 (x6_1 - 1)), (t266), (t270), (t271), (t274), (t275), (t276), (.slice Ao59 t271.length co59), (.slice Ao63 t276.length co63), (by first | rfl | (simp; done) | (simp [*]; done)), H', ⟨by have := HK1.out; omega⟩, ⟨by (with_reducible repeat (first | apply Kd.R_alloc | apply Kd.R_drewN | apply Kd.R_drew)); exact Kd.R_mono (Kd.R_far (p := ⟨gb235, 4, none⟩) (Kd.R_far (p := ⟨gb235, 3, none⟩) (Kd.R_far (p := ⟨gb235, 2, none⟩) (Kd.R_far (p := ⟨gb235, 1, none⟩) (Kd.R_far (p := ⟨gb235, 0, none⟩) (Kd.R_types HO273.out BK235.out (by decide)) (fun _ hk => hk.2) (.int .i64 t270)) (fun _ hk => hk.2) (.slice Ao59 t271.length co59)) (fun _ hk => hk.2) (.int .i64 t274)) (fun _ hk => hk.2) (.int .i64 t275)) (fun _ hk => hk.2) (.slice Ao63 t276.length co63)) (fun _ hk => trivial)⟩, ⟨by (with_reducible repeat (first | apply Kd.R_alloc | apply Kd.R_drewN | apply Kd.R_drew)); exact Kd.R_mono (Kd.R_far (p := ⟨gb235, 4, none⟩) (Kd.R_far (p := ⟨gb235, 3, none⟩) (Kd.R_far (p := ⟨gb235, 2, none⟩) (Kd.R_far (p := ⟨gb235, 1, none⟩) (Kd.R_far (p := ⟨gb235, 0, none⟩) (Kd.R_types HO278.out BK235.out (by decide)) (fun _ hk => hk.2) (.int .i64 t270)) (fun _ hk => hk.2) (.slice Ao59 t271.length co59)) (fun _ hk => hk.2) (.int .i64 t274)) (fun _ hk => hk.2) (.int .i64 t275)) (fun _ hk => hk.2) (.slice Ao63 t276.length co63)) (fun _ hk => trivial)⟩, ⟨uf_ BK230.out⟩, ⟨by (with_reducible repeat (first | refine bn_ ?_ _ | refine bw_ ?_ | refine ba_ ?_ _)); refine blk_put (cs := #[.int .i64 t270, .slice Ao59 t271.length co59, .int .i64 t274, .int .i64 t275, .slice Ao55 x236004_1.length co55]) ?_ 4 _ rfl; (with_reducible repeat (first | refine bn_ ?_ _ | refine bw_ ?_ | refine ba_ ?_ _)); refine blk_put (cs := #[.int .i64 t270, .slice Ao59 t271.length co59, .int .i64 t274, .int .i64 x236003_1, .slice Ao55 x236004_1.length co55]) ?_ 3 _ rfl; (with_reducible repeat (first | refine bn_ ?_ _ | refine bw_ ?_ | refine ba_ ?_ _)); refine blk_put (cs := #[.int .i64 t270, .slice Ao59 t271.length co59, .int .i64 x236002_1, .int .i64 x236003_1, .slice Ao55 x236004_1.length co55]) ?_ 2 _ rfl; (with_reducible repeat (first | refine bn_ ?_ _ | refine bw_ ?_ | refine ba_ ?_ _)); refine blk_put (cs := #[.int .i64 t270, .slice Ao54 x236001_1.length co54, .int .i64 x236002_1, .int .i64 x236003_1, .slice Ao55 x236004_1.length co55]) ?_ 1 _ rfl; (with_reducible repeat (first | refine bn_ ?_ _ | refine bw_ ?_ | refine ba_ ?_ _)); refine blk_put (cs := #[.int .i64 x236000_1, .slice Ao54 x236001_1.length co54, .int .i64 x236002_1, .int .i64 x236003_1, .slice Ao55 x236004_1.length co55]) ?_ 0 _ rfl; (with_reducible repeat (first | refine bn_ ?_ _ | refine bw_ ?_ | refine ba_ ?_ _)); exact BK235.out⟩, ⟨by repeat (first | (with_reducible first | exact HI0.out | apply IsS82.alloc | apply IsS82.drewN | apply IsS82.drew | apply IsS82.set_1 | refine IsS82.far ?_ NB0_230.out _ | refine IsS82.far ?_ NB0_235.out _) | exact HI0.out)⟩, ⟨by repeat (first | (with_reducible first | exact HK.out | apply KeepBut.set_ | apply keep_drewN | apply keep_drew | apply keep_alloc | refine keep_far ?_ GW230.out _ | refine keep_far ?_ GW235.out _) | exact HK.out)⟩, ⟨by repeat (first | (with_reducible first | exact HB.out | apply na_ | apply nn_ | apply nw_ | refine bs_ ?_ (IsS82.ge HI0.out) | refine bs_ ?_ GE230.out | refine bs_ ?_ GE235.out) | exact HB.out)⟩⟩

end Go.Proofs.Ytfcocnhkimbpbaa.MFnMouthOk
