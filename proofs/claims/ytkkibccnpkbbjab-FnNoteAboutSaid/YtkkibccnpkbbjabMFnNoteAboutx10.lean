/- Functions that the law FnNoteAbout reaches, each with the proof that the machine's call comes to just its answer; no conditions but those that each theorem states. Printed by a program of this session over the kit's print. -/
import Derived.Test.YtkkibccnpkbbjabMFnNoteAboutx0
import Derived.Test.YtkkibccnpkbbjabMFnNoteAboutx1
import Derived.Test.YtkkibccnpkbbjabMFnNoteAboutx4
import Derived.Test.YtkkibccnpkbbjabMFnNoteAboutx9
namespace Go.Proofs.Ytkkibccnpkbbjab.MFnNoteAbout
open Go.RowKit Go.Proofs.YtkkibccnpkbbjabV.PrintWords Go.Proofs.YtkkibccnpkbbjabV.PrintLast Go.Proofs.YtkkibccnpkbbjabV.PrintMore
attribute [local go_sem] max2_int min2_int max_two min_two max_three min_three max_four min_four   -- for this text's walks alone
set_option linter.unusedVariables false
set_option linter.unusedSimpArgs false

/-! ### impl_NoteAbout: function 24 -/
def impl_NoteAbout.j0 : Nat → Int → Int → Int → Bool → Int → Int → Int → Int → Int → Int → Bool → Bool → List Int → Option (Int × Int × Int × Int × Int × Int × Bool × Bool × List Int × Bool)
 | 0, _, _, _, _, _, _, _, _, _, _, _, _, _ => none
 | k + 1, x1, x2, x3, x37, x411000, x411001, x411002, x411003, x411004, x411005, x411006, x411007, x411008 => if x37 = true then (some (0, 0, 0, 0, 0, 0, false, false, ([] : List Int), false)) else ((impl_packetBytes.f k x411000 x411001 x411002 x411003 x411004 x411005 x411006 x411007 x411008).bind fun t417 => (if 0 ≤ (mn (t417.length : Int) 20) then (if (mn (t417.length : Int) 20) ≤ (t417.length : Int) then ((impl_noted.f k x1 x411000 x411001 x411002 x411003 x411004 x411005 x411006 x411007 x411008 x2 x3 (t417.take ((mn (t417.length : Int) 20) : Int).toNat)).bind fun bt424 => (some (bt424.1, bt424.2.1, bt424.2.2.1, bt424.2.2.2.1, bt424.2.2.2.2.1, bt424.2.2.2.2.2.1, bt424.2.2.2.2.2.2.1, bt424.2.2.2.2.2.2.2.1, bt424.2.2.2.2.2.2.2.2, true))) else (none)) else (none)))
def impl_NoteAbout.f (k : Nat) (a0_0 : Int) (a0_1 : Int) (a0_2 : Int) (a0_3 : Int) (a0_4 : Int) (a0_5 : Int) (a0_6 : Bool) (a0_7 : Bool) (l0_8 : List Int) (a1 : Int) (a2 : Int) (a3 : Int) : Option (Int × Int × Int × Int × Int × Int × Bool × Bool × List Int × Bool) := (impl_PacketOk.f a0_0 a0_1 a0_2 a0_3 a0_4 a0_5 a0_6 a0_7 l0_8).bind fun t412 => (if t412 = true then ((impl_word.f a1).bind fun t413 => (if t413 = true then (if a0_5 = 0 then ((impl_NoteFault.f k a0_0 a0_1 a0_2 a0_3 a0_4 a0_5 a0_6 a0_7 l0_8).bind fun t414 => (if t414 = true then (impl_NoteAbout.j0 k a1 a2 a3 true a0_0 a0_1 a0_2 a0_3 a0_4 a0_5 a0_6 a0_7 l0_8) else ((impl_in.f a2 3 6).bind fun t415 => (if t415 = true then ((impl_word.f a3).bind fun t416 => (impl_NoteAbout.j0 k a1 a2 a3 (!t416) a0_0 a0_1 a0_2 a0_3 a0_4 a0_5 a0_6 a0_7 l0_8)) else (impl_NoteAbout.j0 k a1 a2 a3 true a0_0 a0_1 a0_2 a0_3 a0_4 a0_5 a0_6 a0_7 l0_8))))) else (impl_NoteAbout.j0 k a1 a2 a3 true a0_0 a0_1 a0_2 a0_3 a0_4 a0_5 a0_6 a0_7 l0_8)) else (impl_NoteAbout.j0 k a1 a2 a3 true a0_0 a0_1 a0_2 a0_3 a0_4 a0_5 a0_6 a0_7 l0_8))) else (impl_NoteAbout.j0 k a1 a2 a3 true a0_0 a0_1 a0_2 a0_3 a0_4 a0_5 a0_6 a0_7 l0_8))
theorem impl_NoteAbout.mono_l : ∀ k, (∀ y0 y1 y2 y3 y4 y5 y6 y7 y8 y9 y10 y11 y12, LeO (impl_NoteAbout.j0 k y0 y1 y2 y3 y4 y5 y6 y7 y8 y9 y10 y11 y12) (impl_NoteAbout.j0 (k + 1) y0 y1 y2 y3 y4 y5 y6 y7 y8 y9 y10 y11 y12))
 | 0 => fun _ _ _ _ _ _ _ _ _ _ _ _ _ r h => by simp [impl_NoteAbout.j0] at h
 | k + 1 => by
  have ih0 := impl_NoteAbout.mono_l k
  ·intro y0 y1 y2 y3 y4 y5 y6 y7 y8 y9 y10 y11 y12
   unfold impl_NoteAbout.j0
   repeat' first
   | (with_reducible exact ih0 _ _ _ _ _ _ _ _ _ _ _ _ _)
   | (with_reducible exact impl_NoteFault.mono _ _ _ _ _ _ _ _ _ _)
   | (with_reducible exact impl_noted.mono _ _ _ _ _ _ _ _ _ _ _ _ _ _)
   | (with_reducible exact impl_packetBytes.mono _ _ _ _ _ _ _ _ _ _)
   | (with_reducible exact LeO.refl _)
   | (with_reducible exact LeO.none _)
   | (with_reducible refine LeO.ite ?_ ?_)
   | (with_reducible refine LeO.bind ?_ (fun _ => ?_))
   | exact ih0 _ _ _ _ _ _ _ _ _ _ _ _ _
   | exact impl_NoteFault.mono _ _ _ _ _ _ _ _ _ _
   | exact impl_noted.mono _ _ _ _ _ _ _ _ _ _ _ _ _ _
   | exact impl_packetBytes.mono _ _ _ _ _ _ _ _ _ _
   | exact LeO.none _
   | refine LeO.ite ?_ ?_
   | refine LeO.bind ?_ (fun _ => ?_)
theorem impl_NoteAbout.mono : ∀ a0 a1 a2 a3 a4 a5 a6 a7 a8 a9 a10 a11 k, LeO (impl_NoteAbout.f k a0 a1 a2 a3 a4 a5 a6 a7 a8 a9 a10 a11) (impl_NoteAbout.f (k + 1) a0 a1 a2 a3 a4 a5 a6 a7 a8 a9 a10 a11) := by
 intro a0 a1 a2 a3 a4 a5 a6 a7 a8 a9 a10 a11 k
 have ih0 := impl_NoteAbout.mono_l k
 unfold impl_NoteAbout.f
 repeat' first
   | (with_reducible exact ih0 _ _ _ _ _ _ _ _ _ _ _ _ _)
   | (with_reducible exact impl_NoteFault.mono _ _ _ _ _ _ _ _ _ _)
   | (with_reducible exact impl_noted.mono _ _ _ _ _ _ _ _ _ _ _ _ _ _)
   | (with_reducible exact impl_packetBytes.mono _ _ _ _ _ _ _ _ _ _)
   | (with_reducible exact LeO.refl _)
   | (with_reducible exact LeO.none _)
   | (with_reducible refine LeO.ite ?_ ?_)
   | (with_reducible refine LeO.bind ?_ (fun _ => ?_))
   | exact ih0 _ _ _ _ _ _ _ _ _ _ _ _ _
   | exact impl_NoteFault.mono _ _ _ _ _ _ _ _ _ _
   | exact impl_noted.mono _ _ _ _ _ _ _ _ _ _ _ _ _ _
   | exact impl_packetBytes.mono _ _ _ _ _ _ _ _ _ _
   | exact LeO.none _
   | refine LeO.ite ?_ ?_
   | refine LeO.bind ?_ (fun _ => ?_)
def impl_NoteAbout.T4 : Bool × List (List Nat × List Nat) := (true, [([], []), ([], []), ([], []), ([], []), ([], []), ([], []), ([5], [5]), ([6], [6]), ([4, 7], [4, 7]), ([2, 3, 8], [2, 3, 8]), ([0, 1, 9], [0, 1, 9]), ([10, 10, 0, 1, 2, 3, 4, 5, 6, 7, 8, 9, 10], [10]), ([11, 0, 1, 2, 3, 4, 5, 6, 7, 8, 9, 10, 11], [])])
def impl_NoteAbout.B4 : List Nat := [0, 0, 0, 0, 0, 0, 32, 96, 240, 508, 1023, 2047, 4095]
theorem impl_NoteAbout.tab4 : rtab .any (opsOf Try.f24 4) = impl_NoteAbout.T4 := by kernel_rfl
theorem impl_NoteAbout.bits4 : waitsOk impl_NoteAbout.T4.2 impl_NoteAbout.B4 = true := by kernel_rfl
set_option maxHeartbeats 8000000 in
set_option maxRecDepth 100000 in
theorem impl_NoteAbout.calls (k : Nat) (a0_0 : Int) (a0_1 : Int) (a0_2 : Int) (a0_3 : Int) (a0_4 : Int) (a0_5 : Int) (a0_6 : Bool) (a0_7 : Bool) (A0_8 : Option Addr) (c0_8 : Nat) (l0_8 : List Int) (a1 : Int) (a2 : Int) (a3 : Int) (r1 : Int) (r2 : Int) (r3 : Int) (r4 : Int) (r5 : Int) (r6 : Int) (r7 : Bool) (r8 : Bool) (r9 : List Int) (r10 : Bool) (w : World) (hr0_8 : Kd.C (Kd.int .u8) w A0_8 l0_8.length l0_8) (hc0_8 : l0_8.length ≤ c0_8) (h : impl_NoteAbout.f k a0_0 a0_1 a0_2 a0_3 a0_4 a0_5 a0_6 a0_7 l0_8 a1 a2 a3 = some (r1, r2, r3, r4, r5, r6, r7, r8, r9, r10)) :
  Calls Try.prog 24 #[.agg #[.int .i64 a0_0, .int .i64 a0_1, .int .i64 a0_2, .int .i64 a0_3, .int .i64 a0_4, .int .i64 a0_5, .bool a0_6, .bool a0_7, .slice A0_8 l0_8.length c0_8], .int .i64 a1, .int .i64 a2, .int .i64 a3] w fun e w' => ∃ v8_ : Value, e = .returned (.tuple #[.agg #[.int .i64 r1, .int .i64 r2, .int .i64 r3, .int .i64 r4, .int .i64 r5, .int .i64 r6, .bool r7, .bool r8, v8_], .bool r10]) ∧ Kd.R (Kd.int .u8) 5 w' w.heap.size (fun _ => True) v8_ r9 ∧ Below w.heap.size w w' := by
 have hu37 := Try.underlying37
 have hu44 := Try.underlying44
 have HR0_8 := mk_ hr0_8
 have HC0_8 := mk_ hc0_8
 clear hr0_8 hc0_8
 have HB := mk_ (Below.refl w.heap.size w)
 have H := h
 unfold impl_NoteAbout.f at H
 clear h
 have HC5 := mk_ H
 clear H
 go_enter Try.func24, Try.ntmps24
 go_upto_region 1 with (first | ((with_reducible refine gate_dst (N := 4) rfl ?_); refine box_event ?hg (N := 4) ?hd (cs := #[.int .i64 a0_0, .int .i64 a0_1, .int .i64 a0_2, .int .i64 a0_3, .int .i64 a0_4, .int .i64 a0_5, .bool a0_6, .bool a0_7, .slice A0_8 l0_8.length c0_8]) (t := 37) ?hr ?_; (case hd => rfl); (case hg => rfl); (case hr => first | (go_simp; done) | (go_simp; rfl)); intro gb410 hg w6 hbox hb; have n0_ := mk_ (below_step (ub_ HB.out) hb); have BK410 := mk_ (hbox); have GW410 := mk_ ((by rw [hg]; exact (below_size (ub_ HB.out)) : w.heap.size ≤ gb410)); have GE410 := ge_ ((by rw [hg]; exact (below_size (ub_ HB.out)) : w.heap.size ≤ gb410)); replace HB := n0_; clear n0_; clear hb hbox hg) | ((with_reducible refine gate_dst (N := 8) rfl ?_); refine box_event ?hg (N := 8) ?hd (cs := #[.int .i64 0, .int .i64 0, .int .i64 0, .int .i64 0, .int .i64 0, .int .i64 0, .bool false, .bool false, .slice none 0 0]) (t := 37) ?hr ?_; (case hd => rfl); (case hg => rfl); (case hr => first | (go_simp; done) | (go_simp; rfl)); intro gb411 hg w7 hbox hb; have n0_ := mk_ (blk_below (u_ BK410.out) hb); have n1_ := mk_ (below_step (us_ HB.out) hb); have BK411 := mk_ (hbox); have GW411 := mk_ ((by rw [hg]; exact (below_size (us_ HB.out)) : w.heap.size ≤ gb411)); have GE411 := ge_ ((by rw [hg]; exact (below_size (us_ HB.out)) : w.heap.size ≤ gb411)); have NB410_411 := nq_ ((by rw [hg]; exact Nat.ne_of_lt (blk_lt (u_ BK410.out)) : gb410 ≠ gb411)); have NB411_410 := nq_ ((by rw [hg]; exact Nat.ne_of_gt (blk_lt (u_ BK410.out)) : gb411 ≠ gb410)); replace BK410 := n0_; replace HB := n1_; clear n0_ n1_; clear hb hbox hg))
 (try simp only [Act.put, la_, lz_, ls_])
 go_cut [37] (fun v37 wc => ∃ (kq : Nat) (x37_4 : Bool), v37 = .bool x37_4 ∧ Aside0 (impl_NoteAbout.j0 kq a1 a2 a3 x37_4 a0_0 a0_1 a0_2 a0_3 a0_4 a0_5 a0_6 a0_7 l0_8 = some (r1, r2, r3, r4, r5, r6, r7, r8, r9, r10)) ∧ Aside0 (kq ≤ k) ∧ Aside0 (wc.heap[gb410]? = some (.cells #[.int .i64 a0_0, .int .i64 a0_1, .int .i64 a0_2, .int .i64 a0_3, .int .i64 a0_4, .int .i64 a0_5, .bool a0_6, .bool a0_7, (.slice A0_8 l0_8.length c0_8)] 37 (0, 0))) ∧ Aside0 (wc.heap[gb411]? = some (.cells #[.int .i64 0, .int .i64 0, .int .i64 0, .int .i64 0, .int .i64 0, .int .i64 0, .bool false, .bool false, (.slice none 0 0)] 37 (0, 0))) ∧ Aside0 (Below w.heap.size w wc))
 case first =>
  have H := HC5.out
  clear HC5
  replace H := Option.bind_eq_some_iff.mp H
  obtain ⟨t412, A80, H⟩ := H
  (try dsimp only at H)
  have A8 := mk_ A80
  clear A80
  by_cases c9 : t412 = true
  rotate_left
  focus
   replace c9 := Bool.eq_false_iff.mpr c9
   subst c9
   rw [if_neg (show ¬ (false = true) by decide)] at H
   have H' := mk_ H
   clear H
   have hnb40 := NB410_411.out
   have hnc40 := NB411_410.out
   obtain ⟨hcz41_0, hcz41_1, hcz41_2, hcz41_3, hcz41_4, hcz41_5, hcz41_6, hcz41_7, hcz41_8, hfz41_0, hfz41_1, hfz41_2, hfz41_3, hfz41_4, hfz41_5, hfz41_6, hfz41_7, hfz41_8⟩ := cells9_ BK410.out
  rotate_left
  focus
   subst c9
   rw [if_pos rfl] at H
   replace H := Option.bind_eq_some_iff.mp H
   obtain ⟨t413, A100, H⟩ := H
   (try dsimp only at H)
   have A10 := mk_ A100
   clear A100
   by_cases c11 : t413 = true
   rotate_left
   focus
    replace c11 := Bool.eq_false_iff.mpr c11
    subst c11
    rw [if_neg (show ¬ (false = true) by decide)] at H
    have H' := mk_ H
    clear H
    have hnb37 := NB410_411.out
    have hnc37 := NB411_410.out
    obtain ⟨hcz38_0, hcz38_1, hcz38_2, hcz38_3, hcz38_4, hcz38_5, hcz38_6, hcz38_7, hcz38_8, hfz38_0, hfz38_1, hfz38_2, hfz38_3, hfz38_4, hfz38_5, hfz38_6, hfz38_7, hfz38_8⟩ := cells9_ BK410.out
   rotate_left
   focus
    subst c11
    rw [if_pos rfl] at H
    by_cases c12 : a0_5 = 0
    rotate_left
    focus
     rw [if_neg c12] at H
     have c12b0 : (a0_5 == 0) = false := beq_eq_false_iff_ne.mpr c12
     have c12b1 : (a0_5 != 0) = true := bne_iff_ne.mpr c12
     (first | rw [c12b0] | (simp only [i64_w, i32_w]; rw [c12b0]) | skip)
     have H' := mk_ H
     clear H
     have hnb33 := NB410_411.out
     have hnc33 := NB411_410.out
     obtain ⟨hcz34_0, hcz34_1, hcz34_2, hcz34_3, hcz34_4, hcz34_5, hcz34_6, hcz34_7, hcz34_8, hfz34_0, hfz34_1, hfz34_2, hfz34_3, hfz34_4, hfz34_5, hfz34_6, hfz34_7, hfz34_8⟩ := cells9_ BK410.out
    rotate_left
    focus
     rw [if_pos c12] at H
     have c12b0 : (a0_5 == 0) = true := beq_iff_eq.mpr c12
     have c12b1 : (a0_5 != 0) = false := bne_eq_false_iff_eq.mpr c12
     clear c12
     (first | rw [c12b0] | (simp only [i64_w, i32_w]; rw [c12b0]) | skip)
     replace H := Option.bind_eq_some_iff.mp H
     obtain ⟨t414, A130, H⟩ := H
     (try dsimp only at H)
     have A13 := mk_ A130
     clear A130
     by_cases c14 : t414 = true
     focus
      subst c14
      rw [if_pos rfl] at H
      have H' := mk_ H
      clear H
      have hnb15 := NB410_411.out
      have hnc15 := NB411_410.out
      obtain ⟨hcz16_0, hcz16_1, hcz16_2, hcz16_3, hcz16_4, hcz16_5, hcz16_6, hcz16_7, hcz16_8, hfz16_0, hfz16_1, hfz16_2, hfz16_3, hfz16_4, hfz16_5, hfz16_6, hfz16_7, hfz16_8⟩ := cells9_ BK410.out
     rotate_left
     focus
      replace c14 := Bool.eq_false_iff.mpr c14
      subst c14
      rw [if_neg (show ¬ (false = true) by decide)] at H
      replace H := Option.bind_eq_some_iff.mp H
      obtain ⟨t415, A200, H⟩ := H
      (try dsimp only at H)
      have A20 := mk_ A200
      clear A200
      by_cases c21 : t415 = true
      rotate_left
      focus
       replace c21 := Bool.eq_false_iff.mpr c21
       subst c21
       rw [if_neg (show ¬ (false = true) by decide)] at H
       have H' := mk_ H
       clear H
       have hnb28 := NB410_411.out
       have hnc28 := NB411_410.out
       obtain ⟨hcz29_0, hcz29_1, hcz29_2, hcz29_3, hcz29_4, hcz29_5, hcz29_6, hcz29_7, hcz29_8, hfz29_0, hfz29_1, hfz29_2, hfz29_3, hfz29_4, hfz29_5, hfz29_6, hfz29_7, hfz29_8⟩ := cells9_ BK410.out
      rotate_left
      focus
       subst c21
       rw [if_pos rfl] at H
       replace H := Option.bind_eq_some_iff.mp H
       obtain ⟨t416, A220, H⟩ := H
       replace H : (impl_NoteAbout.j0 k a1 a2 a3 (!t416) a0_0 a0_1 a0_2 a0_3 a0_4 a0_5 a0_6 a0_7 l0_8) = some (r1, r2, r3, r4, r5, r6, r7, r8, r9, r10) := H
       have A22 := mk_ A220
       clear A220
       have H' := mk_ H
       clear H
       have hnb23 := NB410_411.out
       have hnc23 := NB411_410.out
       obtain ⟨hcz24_0, hcz24_1, hcz24_2, hcz24_3, hcz24_4, hcz24_5, hcz24_6, hcz24_7, hcz24_8, hfz24_0, hfz24_1, hfz24_2, hfz24_3, hfz24_4, hfz24_5, hfz24_6, hfz24_7, hfz24_8⟩ := cells9_ BK410.out
      rotate_left
     rotate_left 2
    rotate_left 3
   rotate_left 4
  rotate_left 5
  all_goals
   go_wp2_with (first | ((with_reducible refine gate_callee (f := 20) rfl ?_); refine goesL_ (some 12) rfl rfl Try.func20 (by kernel_rfl) rfl #[.agg #[.int .i64 a0_0, .int .i64 a0_1, .int .i64 a0_2, .int .i64 a0_3, .int .i64 a0_4, .int .i64 a0_5, .bool a0_6, .bool a0_7, .slice A0_8 l0_8.length c0_8]] rfl (by (try simp only [lm_, lo_, ln_]); try rfl) ?_; (with_reducible refine (impl_PacketOk.calls a0_0 a0_1 a0_2 a0_3 a0_4 a0_5 a0_6 a0_7 _ _ l0_8 false _ ?side1 ?side2 A8.out).mono ?_); (case side1 => repeat (first | exact (Kd.C_below HR0_8.out HB.out) | (with_reducible refine Kd.C_alloc ?_ _) | (with_reducible refine Kd.C_drewN ?_ _) | (with_reducible refine Kd.C_drew ?_))); (case side2 => exact HC0_8.out); rintro e w2280 ⟨rfl, hb⟩; refine ⟨_, rfl, ?_⟩; replace BK410 := mk_ (blk_below (u_ BK410.out) hb); replace BK411 := mk_ (blk_below (u_ BK411.out) hb); replace HB := mk_ (below_step (us_ HB.out) hb)) | ((with_reducible refine gate_callee (f := 20) rfl ?_); refine goesL_ (some 12) rfl rfl Try.func20 (by kernel_rfl) rfl #[.agg #[.int .i64 a0_0, .int .i64 a0_1, .int .i64 a0_2, .int .i64 a0_3, .int .i64 a0_4, .int .i64 a0_5, .bool a0_6, .bool a0_7, .slice A0_8 l0_8.length c0_8]] rfl (by (try simp only [lm_, lo_, ln_]); try rfl) ?_; (with_reducible refine (impl_PacketOk.calls a0_0 a0_1 a0_2 a0_3 a0_4 a0_5 a0_6 a0_7 _ _ l0_8 true _ ?side1 ?side2 A8.out).mono ?_); (case side1 => repeat (first | exact (Kd.C_below HR0_8.out HB.out) | (with_reducible refine Kd.C_alloc ?_ _) | (with_reducible refine Kd.C_drewN ?_ _) | (with_reducible refine Kd.C_drew ?_))); (case side2 => exact HC0_8.out); rintro e w2280 ⟨rfl, hb⟩; refine ⟨_, rfl, ?_⟩; replace BK410 := mk_ (blk_below (u_ BK410.out) hb); replace BK411 := mk_ (blk_below (u_ BK411.out) hb); replace HB := mk_ (below_step (us_ HB.out) hb)) | (go_at_call 49; (with_reducible refine (impl_word.calls a1 false _ A10.out).mono ?_); rintro e w' ⟨rfl, ⟨nd, rfl⟩⟩) | (go_at_call 49; have hA_ := A10.out; (with_reducible refine (impl_word.calls a1 true _ A10.out).mono ?_); rintro e w' ⟨rfl, ⟨nd, rfl⟩⟩; obtain ⟨hcz340410_0, hcz340410_1, hcz340410_2, hcz340410_3, hcz340410_4, hcz340410_5, hcz340410_6, hcz340410_7, hcz340410_8, hfz340410_0, hfz340410_1, hfz340410_2, hfz340410_3, hfz340410_4, hfz340410_5, hfz340410_6, hfz340410_7, hfz340410_8⟩ := cells9_ BK410.out; clear hA_ A10) | (go_at_call 22; (with_reducible refine (impl_NoteFault.calls k a0_0 a0_1 a0_2 a0_3 a0_4 a0_5 a0_6 a0_7 _ _ l0_8 true _ ?side1 ?side2 A13.out).mono ?_); (case side1 => repeat (first | exact (Kd.C_below HR0_8.out (us_ HB.out)) | (with_reducible refine Kd.C_alloc ?_ _) | (with_reducible refine Kd.C_drewN ?_ _) | (with_reducible refine Kd.C_drew ?_))); (case side2 => exact HC0_8.out); rintro e w2400 ⟨rfl, hb⟩; replace BK410 := mk_ (blk_below (u_ BK410.out) hb); replace BK411 := mk_ (blk_below (u_ BK411.out) hb); replace HB := mk_ (below_step (us_ HB.out) hb)) | (go_at_call 22; (with_reducible refine (impl_NoteFault.calls k a0_0 a0_1 a0_2 a0_3 a0_4 a0_5 a0_6 a0_7 _ _ l0_8 false _ ?side1 ?side2 A13.out).mono ?_); (case side1 => repeat (first | exact (Kd.C_below HR0_8.out (us_ HB.out)) | (with_reducible refine Kd.C_alloc ?_ _) | (with_reducible refine Kd.C_drewN ?_ _) | (with_reducible refine Kd.C_drew ?_))); (case side2 => exact HC0_8.out); rintro e w2400 ⟨rfl, hb⟩; replace BK410 := mk_ (blk_below (u_ BK410.out) hb); replace BK411 := mk_ (blk_below (u_ BK411.out) hb); replace HB := mk_ (below_step (us_ HB.out) hb)) | (go_at_call 48; (with_reducible refine (impl_in.calls a2 3 6 false _ A20.out).mono ?_); rintro e w' ⟨rfl, ⟨nd, rfl⟩⟩) | (go_at_call 48; (with_reducible refine (impl_in.calls a2 3 6 true _ A20.out).mono ?_); rintro e w' ⟨rfl, ⟨nd, rfl⟩⟩) | (go_at_call 49; have hA_ := A22.out; (with_reducible refine (impl_word.calls a3 t416 _ A22.out).mono ?_); rintro e w' ⟨rfl, ⟨nd, rfl⟩⟩; clear hA_ A22))
   go_meet
  iterate 5
   focus
    case rel => exact ⟨_, (true), (by first | rfl | (simp; done) | (simp [*]; done)), H', ⟨by first | omega | exact Nat.le_refl _⟩, ⟨u_ BK410.out⟩, ⟨u_ BK411.out⟩, ⟨us_ HB.out⟩⟩
  ·case rel => exact ⟨_, (!t416), (by first | rfl | (simp; done) | (simp [*]; done)), H', ⟨by first | omega | exact Nat.le_refl _⟩, ⟨u_ BK410.out⟩, ⟨u_ BK411.out⟩, ⟨us_ HB.out⟩⟩
 case rest =>
  clear HC5
  try clear c1
  try clear c2
  try clear p2
  try clear c3
  try clear c4
  try clear c9
  try clear c11
  try clear c12
  try clear c12b0
  try clear c12b1
  try clear c14
  try clear c15
  try clear c20
  try clear c21
  try clear c23
  try clear c24
  try clear c28
  try clear c33
  try clear c37
  try clear c40
  try clear hcz16_0
  try clear hcz16_1
  try clear hcz16_2
  try clear hcz16_3
  try clear hcz16_4
  try clear hcz16_5
  try clear hcz16_6
  try clear hcz16_7
  try clear hcz16_8
  try clear hcz18_0
  try clear hcz18_1
  try clear hcz18_2
  try clear hcz18_3
  try clear hcz18_4
  try clear hcz18_5
  try clear hcz18_6
  try clear hcz18_7
  try clear hcz18_8
  try clear hcz24_0
  try clear hcz24_1
  try clear hcz24_2
  try clear hcz24_3
  try clear hcz24_4
  try clear hcz24_5
  try clear hcz24_6
  try clear hcz24_7
  try clear hcz24_8
  try clear hcz26_0
  try clear hcz26_1
  try clear hcz26_2
  try clear hcz26_3
  try clear hcz26_4
  try clear hcz26_5
  try clear hcz26_6
  try clear hcz26_7
  try clear hcz26_8
  try clear hcz29_0
  try clear hcz29_1
  try clear hcz29_2
  try clear hcz29_3
  try clear hcz29_4
  try clear hcz29_5
  try clear hcz29_6
  try clear hcz29_7
  try clear hcz29_8
  try clear hcz31_0
  try clear hcz31_1
  try clear hcz31_2
  try clear hcz31_3
  try clear hcz31_4
  try clear hcz31_5
  try clear hcz31_6
  try clear hcz31_7
  try clear hcz31_8
  try clear hcz34_0
  try clear hcz34_1
  try clear hcz34_2
  try clear hcz34_3
  try clear hcz34_4
  try clear hcz34_5
  try clear hcz34_6
  try clear hcz34_7
  try clear hcz34_8
  try clear hcz36_0
  try clear hcz36_1
  try clear hcz36_2
  try clear hcz36_3
  try clear hcz36_4
  try clear hcz36_5
  try clear hcz36_6
  try clear hcz36_7
  try clear hcz36_8
  try clear hcz38_0
  try clear hcz38_1
  try clear hcz38_2
  try clear hcz38_3
  try clear hcz38_4
  try clear hcz38_5
  try clear hcz38_6
  try clear hcz38_7
  try clear hcz38_8
  try clear hcz41_0
  try clear hcz41_1
  try clear hcz41_2
  try clear hcz41_3
  try clear hcz41_4
  try clear hcz41_5
  try clear hcz41_6
  try clear hcz41_7
  try clear hcz41_8
  try clear hfz16_0
  try clear hfz16_1
  try clear hfz16_2
  try clear hfz16_3
  try clear hfz16_4
  try clear hfz16_5
  try clear hfz16_6
  try clear hfz16_7
  try clear hfz16_8
  try clear hfz18_0
  try clear hfz18_1
  try clear hfz18_2
  try clear hfz18_3
  try clear hfz18_4
  try clear hfz18_5
  try clear hfz18_6
  try clear hfz18_7
  try clear hfz18_8
  try clear hfz24_0
  try clear hfz24_1
  try clear hfz24_2
  try clear hfz24_3
  try clear hfz24_4
  try clear hfz24_5
  try clear hfz24_6
  try clear hfz24_7
  try clear hfz24_8
  try clear hfz26_0
  try clear hfz26_1
  try clear hfz26_2
  try clear hfz26_3
  try clear hfz26_4
  try clear hfz26_5
  try clear hfz26_6
  try clear hfz26_7
  try clear hfz26_8
  try clear hfz29_0
  try clear hfz29_1
  try clear hfz29_2
  try clear hfz29_3
  try clear hfz29_4
  try clear hfz29_5
  try clear hfz29_6
  try clear hfz29_7
  try clear hfz29_8
  try clear hfz31_0
  try clear hfz31_1
  try clear hfz31_2
  try clear hfz31_3
  try clear hfz31_4
  try clear hfz31_5
  try clear hfz31_6
  try clear hfz31_7
  try clear hfz31_8
  try clear hfz34_0
  try clear hfz34_1
  try clear hfz34_2
  try clear hfz34_3
  try clear hfz34_4
  try clear hfz34_5
  try clear hfz34_6
  try clear hfz34_7
  try clear hfz34_8
  try clear hfz36_0
  try clear hfz36_1
  try clear hfz36_2
  try clear hfz36_3
  try clear hfz36_4
  try clear hfz36_5
  try clear hfz36_6
  try clear hfz36_7
  try clear hfz36_8
  try clear hfz38_0
  try clear hfz38_1
  try clear hfz38_2
  try clear hfz38_3
  try clear hfz38_4
  try clear hfz38_5
  try clear hfz38_6
  try clear hfz38_7
  try clear hfz38_8
  try clear hfz41_0
  try clear hfz41_1
  try clear hfz41_2
  try clear hfz41_3
  try clear hfz41_4
  try clear hfz41_5
  try clear hfz41_6
  try clear hfz41_7
  try clear hfz41_8
  obtain ⟨kq, x37_4, rfl, HA, HJ4, BK410, BK411, HB⟩ := hcut
  cases kq with
  | zero => exact absurd HA.out (by simp [impl_NoteAbout.j0])
  | succ kj4 =>
   have H := HA.out
   clear HA
   simp only [impl_NoteAbout.j0] at H
   by_cases c43 : x37_4 = true
   ·subst c43
    rw [if_pos rfl] at H
    simp only [Option.some.injEq, Prod.mk.injEq] at H
    obtain ⟨rfl, rfl, rfl, rfl, rfl, rfl, rfl, rfl, rfl, rfl⟩ := H
    have hnb44 := NB411_410.out
    have hnc44 := NB410_411.out
    obtain ⟨_, _, _, _, _, _, _, _, _, _, _, _, _, _, _, _, _, _⟩ := cells9_ BK411.out
    go_wp2_with (first | ((with_reducible refine gate_store (t := 37) (p := 8) rfl ?_); refine store_event (t := 37) (p := 8) (v := ?_) (w1 := ?_) ?hg ?ho ?hn ?hr ?_; (case ho => rfl); (case hg => rfl); (case hn => rfl); (case hr => first | (go_simp; done) | (go_simp; rfl)); intro w46 hw; have n0_ : Aside0 (w46.heap[gb410]? = some (.cells #[.int .i64 a0_0, .int .i64 a0_1, .int .i64 a0_2, .int .i64 a0_3, .int .i64 a0_4, .int .i64 a0_5, .bool a0_6, .bool a0_7, .slice A0_8 l0_8.length c0_8] 37 (0, 0))) := ⟨(by rw [hw]; exact (uf_ BK410.out))⟩; have n1_ : Aside0 (w46.heap[gb411]? = some (.cells #[.int .i64 0, .int .i64 0, .int .i64 0, .int .i64 0, .int .i64 0, .int .i64 0, .bool false, .bool false, .slice none 0 0] 37 (0, 0))) := ⟨(by rw [hw]; exact (by (with_reducible repeat (first | refine bn_ ?_ _ | refine bw_ ?_ | refine ba_ ?_ _)); with_reducible apply blk_put9; (with_reducible repeat (first | refine bn_ ?_ _ | refine bw_ ?_ | refine ba_ ?_ _)); exact BK411.out))⟩; have n2_ : Aside0 (Below w.heap.size w w46) := ⟨(by rw [hw]; exact (us_ HB.out))⟩; clear hw; clear BK410; clear BK411; clear HB; have BK410 := n0_; have BK411 := n1_; have HB := n2_; clear n0_ n1_ n2_))
    refine bodyPost_ret (results_ct rfl _ _ gb411 37 #[.int .i64 0, .int .i64 0, .int .i64 0, .int .i64 0, .int .i64 0, .int .i64 0, .bool false, .bool false, .slice none 0 0] (0, 0) _ rfl (u_ BK411.out) Try.underlying37 rfl (by kernel_rfl)) rfl ?_
    exact ⟨_, by first | rfl | (simp [errW_none, errW_some] <;> rfl) | (simp [*, errW_none, errW_some] <;> rfl), by first | exact Kd.R_nil _ _ _ _ _ | exact Kd.N_nil _ _ _ _ _ | exact Kd.V_nil _ _ _ _ _ | exact Kd.Q_nil _ _ _ _ _ | exact Kd.S_nil _ _ _ _ _, us_ HB.out⟩
   replace c43 := Bool.eq_false_iff.mpr c43
   subst c43
   rw [if_neg (show ¬ (false = true) by decide)] at H
   replace H := Option.bind_eq_some_iff.mp H
   obtain ⟨t417, A470, H⟩ := H
   (try dsimp only at H)
   have A47 := mk_ A470
   clear A470
   obtain ⟨ji48, hji48⟩ : ∃ j_ : Int, (mn (t417.length : Int) 20) = j_ := ⟨_, rfl⟩
   replace H : (if 0 ≤ (ji48) then (if (ji48) ≤ (t417.length : Int) then ((impl_noted.f kj4 a1 a0_0 a0_1 a0_2 a0_3 a0_4 a0_5 a0_6 a0_7 l0_8 a2 a3 (t417.take ((ji48) : Int).toNat)).bind fun bt424 => (some (bt424.1, bt424.2.1, bt424.2.2.1, bt424.2.2.2.1, bt424.2.2.2.2.1, bt424.2.2.2.2.2.1, bt424.2.2.2.2.2.2.1, bt424.2.2.2.2.2.2.2.1, bt424.2.2.2.2.2.2.2.2, true))) else (none)) else (none)) = some (r1, r2, r3, r4, r5, r6, r7, r8, r9, r10) := by first | (rw [hji48] at H; exact H) | (simp only [hji48] at H ⊢; exact H)
   (try rw [hji48] at A47)
   (try (have hji48h : ji48 ≤ 20 := by (rw [← hji48]; unfold mn; (repeat' split) <;> omega)))
   (try (have hji48g : ji48 ≤ 64 := by omega))
   (try (have hji48l : 0 ≤ ji48 := by (rw [← hji48]; unfold mn; (repeat' split) <;> omega)))
   (try (have hji48m : 0 ≤ ji48 := by omega))
   have hji48_ : (if 20 < (t417.length : Int) then 20 else (t417.length : Int)) = ji48 := hji48
   by_cases c49 : 0 ≤ (ji48)
   rotate_left
   ·rw [if_neg c49] at H
    exact absurd H (by simp)
   rw [if_pos c49] at H
   have c49b0 := eq_true c49
   have c49b1 : decide (0 ≤ (ji48)) = true := decide_eq_true c49
   clear c49
   by_cases c50 : (ji48) ≤ (t417.length : Int)
   rotate_left
   ·rw [if_neg c50] at H
    exact absurd H (by simp)
   rw [if_pos c50] at H
   have c50b0 := eq_true c50
   have c50b1 : decide ((ji48) ≤ (t417.length : Int)) = true := decide_eq_true c50
   clear c50
   obtain ⟨y420, hy420⟩ : ∃ y_ : List Int, y_ = (t417.take ((ji48) : Int).toNat) := ⟨_, rfl⟩
   replace H : ((impl_noted.f kj4 a1 a0_0 a0_1 a0_2 a0_3 a0_4 a0_5 a0_6 a0_7 l0_8 a2 a3 y420).bind fun bt424 => (some (bt424.1, bt424.2.1, bt424.2.2.1, bt424.2.2.2.1, bt424.2.2.2.2.1, bt424.2.2.2.2.2.1, bt424.2.2.2.2.2.2.1, bt424.2.2.2.2.2.2.2.1, bt424.2.2.2.2.2.2.2.2, true))) = some (r1, r2, r3, r4, r5, r6, r7, r8, r9, r10) := by first | (rw [hy420]; with_reducible exact H) | (have H2_ := (Option.bind_some _ _).symm.trans H; rw [hy420]; with_reducible exact H2_) | (have H2_ := (Option.bind_some _ _).symm.trans H; with_reducible exact H2_) | with_reducible exact H | (rw [hy420]; exact H) | exact H
   have Ny420 := mk_ hy420
   clear hy420
   replace H := Option.bind_eq_some_iff.mp H
   obtain ⟨⟨t424, t425, t426, t427, t428, t429, t430, t431, t432⟩, A510, H⟩ := H
   replace H : (some (t424, t425, t426, t427, t428, t429, t430, t431, t432, true)) = some (r1, r2, r3, r4, r5, r6, r7, r8, r9, r10) := H
   have A51 := mk_ A510
   clear A510
   simp only [Option.some.injEq, Prod.mk.injEq] at H
   obtain ⟨rfl, rfl, rfl, rfl, rfl, rfl, rfl, rfl, rfl, rfl⟩ := H
   have hnb52 := NB410_411.out
   have hnc52 := NB411_410.out
   obtain ⟨_, _, _, _, _, _, _, _, _, _, _, _, _, _, _, _, _, _⟩ := cells9_ BK410.out
   try go_wp2_with (first | ((with_reducible refine gate_callee (f := 67) rfl ?_); refine goesL_ (some 40) rfl rfl Try.func67 (by kernel_rfl) rfl #[.agg #[.int .i64 a0_0, .int .i64 a0_1, .int .i64 a0_2, .int .i64 a0_3, .int .i64 a0_4, .int .i64 a0_5, .bool a0_6, .bool a0_7, .slice A0_8 l0_8.length c0_8]] rfl (by (try simp only [lm_, lo_, ln_]); try rfl) ?_; (with_reducible refine (impl_packetBytes.calls kj4 a0_0 a0_1 a0_2 a0_3 a0_4 a0_5 a0_6 a0_7 (fun k_ => k_ < w.heap.size) _ _ l0_8 t417 _ ?side1 A47.out).mono ?_); (case side1 => exact Kd.V_mk HC0_8.out (Kd.F_below (Kd.C_F (Kd.heap_int .u8) HR0_8.out) (us_ HB.out))); rintro e w54 ⟨v418, rfl, ho0, hb⟩; refine ⟨_, rfl, ?_⟩; have HO419 := mk_ (Kd.R_lower (Kd.R_mono (ok' := fun k_ => True) ho0 (fun _ hk_ => trivial)) (below_size (us_ HB.out))); replace BK410 := mk_ (blk_below (u_ BK410.out) hb); replace BK411 := mk_ (blk_below (u_ BK411.out) hb); replace HB := mk_ (below_step (us_ HB.out) hb)))
   have n0_ := mk_ (Kd.R_drew HO419.out)
   have n1_ := mk_ (blk_drew BK410.out)
   have n2_ := mk_ (blk_drew BK411.out)
   have n3_ := mk_ (below_drew1 HB.out)
   clear HO419
   clear BK410
   clear BK411
   clear HB
   have HO419 := n0_
   have BK410 := n1_
   have BK411 := n2_
   have HB := n3_
   clear n0_ n1_ n2_ n3_
   obtain ⟨Ao56, co56, eo56⟩ := Kd.R_slice HO419.out
   (first | subst eo56 | (injection eo56 with f1_ f2_ f3_; have f4_ := f1_.symm; have f5_ := f3_.symm; clear f1_ f2_ f3_; subst f4_; subst f5_))
   have q57 : ((ji48) : Int) ≤ ((t417.length : Int) : Int) := of_decide_eq_true (by first | (with_reducible assumption) | assumption)
   obtain ⟨i057, hi057, _, hsz57, _⟩ := info_parts info5
   have hroom57 : t417.length ≤ co56 := (Kd.R_reads' HO419.out).2.1
   have hC57 : Kd.C (Kd.int .u8) _ Ao56 t417.length t417 := (Kd.R_reads' HO419.out).2.2
   have hcut57 := cut_to (P := Try.prog) 22 5 .i64 Try.underlying22 hi057 Ao56 t417.length co56 (ji48) (of_decide_eq_true (by first | (with_reducible assumption) | assumption)) q57 hroom57
   have hr57 := Kd.C_take (m := ((ji48) : Int).toNat) hC57 (by omega)
   have hy57 : y420.length = ((ji48) : Int).toNat := (by rw [Ny420.out, List.length_take]; omega)
   rw [← Ny420.out] at hr57
   rw [← hy57] at hcut57
   have HR423 := mk_ hr57
   have HC423 := mk_ (show y420.length ≤ co56 from by omega)
   clear hr57 hC57 hroom57 hi057 hsz57
   have KY57 := mk_ hy57
   clear hy57
   have KL57 := mk_ (show ((ji48) : Int).toNat ≤ t417.length from by omega)
   replace q57 := eq_true q57
   refine start_ (n := 13) (S := fun w' => w'.cell? ⟨gb410, 0, none⟩ = some (.int .i64 a0_0) ∧ w'.cell? ⟨gb410, 1, none⟩ = some (.int .i64 a0_1) ∧ w'.cell? ⟨gb410, 2, none⟩ = some (.int .i64 a0_2) ∧ w'.cell? ⟨gb410, 3, none⟩ = some (.int .i64 a0_3) ∧ w'.cell? ⟨gb410, 4, none⟩ = some (.int .i64 a0_4) ∧ w'.cell? ⟨gb410, 5, none⟩ = some (.int .i64 a0_5) ∧ w'.cell? ⟨gb410, 6, none⟩ = some (.bool a0_6) ∧ w'.cell? ⟨gb410, 7, none⟩ = some (.bool a0_7) ∧ w'.cell? ⟨gb410, 8, none⟩ = some (.slice A0_8 l0_8.length c0_8)) (ds := []) #[F_, F_, F_, F_, F_, F_, F_, F_, F_, F_, F_, F_, F_] (by kernel_rfl) rfl rfl ⟨(blk_cell BK410.out 0).trans rfl, (blk_cell BK410.out 1).trans rfl, (blk_cell BK410.out 2).trans rfl, (blk_cell BK410.out 3).trans rfl, (blk_cell BK410.out 4).trans rfl, (blk_cell BK410.out 5).trans rfl, (blk_cell BK410.out 6).trans rfl, (blk_cell BK410.out 7).trans rfl, (blk_cell BK410.out 8).trans rfl⟩ (fun hHeld => ?_); refine with_tabW impl_NoteAbout.tab4 impl_NoteAbout.bits4 (fun HT_ HW_ => ?_)
   generalize w54.drew = w55 at HO419 BK410 BK411 HB HR423 hHeld ⊢
   refine pure_ (i := 0) (N := some 41) (v := ?_) (a' := ?_) #[T_, F_, F_, F_, F_, F_, F_, F_, F_, F_, F_, F_, F_] rfl rfl (any_of HT_.out (by kernel_rfl)) (fun _ _ _ h => h) (Or.inl ⟨by rfl, ?_⟩) ?_ ?_
   rotate_left
   ·intro w'
    go_simp
    with_reducible rfl
   rotate_left
   ·simp only [Act.put, la_, lz_, ls_, i64_w, i32_w]
    rfl
   refine pure_ (i := 2) (N := some 43) (v := ?_) (a' := ?_) #[T_, F_, T_, F_, F_, F_, F_, F_, F_, F_, F_, F_, F_] rfl rfl (any_of HT_.out (by kernel_rfl)) (fun _ _ _ h => h) (Or.inl ⟨by rfl, ?_⟩) ?_ ?_
   rotate_left
   ·intro w'
    go_simp
    with_reducible rfl
   rotate_left
   ·simp only [Act.put, la_, lz_, ls_, i64_w, i32_w]
    rfl
   refine pure_ (i := 3) (N := some 44) (v := ?_) (a' := ?_) #[T_, F_, T_, T_, F_, F_, F_, F_, F_, F_, F_, F_, F_] rfl rfl (any_of HT_.out (by kernel_rfl)) (fun _ _ _ h => h) (Or.inl ⟨by rfl, ?_⟩) ?_ ?_
   rotate_left
   ·intro w'
    go_simp
    with_reducible rfl
   rotate_left
   ·simp only [Act.put, la_, lz_, ls_, i64_w, i32_w]
    rfl
   refine pure_ (i := 4) (N := some 45) (v := ?_) (a' := ?_) #[T_, F_, T_, T_, T_, F_, F_, F_, F_, F_, F_, F_, F_] rfl rfl (any_of HT_.out (by kernel_rfl)) (fun _ _ _ h => h) (Or.inl ⟨by rfl, ?_⟩) ?_ ?_
   rotate_left
   ·intro w'
    go_simp
    with_reducible rfl
   rotate_left
   ·simp only [Act.put, la_, lz_, ls_, i64_w, i32_w]
    rfl
   refine pure_ (i := 5) (N := some 46) (v := ?_) (a' := ?_) #[T_, F_, T_, T_, T_, T_, F_, F_, F_, F_, F_, F_, F_] rfl rfl (any_of HT_.out (by kernel_rfl)) (fun _ _ _ h => h) (Or.inl ⟨by rfl, ?_⟩) ?_ ?_
   rotate_left
   ·intro w'
    go_simp
    with_reducible rfl
   rotate_left
   ·simp only [Act.put, la_, lz_, ls_, i64_w, i32_w]
    rfl
   refine pure_ (i := 6) (N := some 47) (v := ?_) (a' := ?_) #[T_, F_, T_, T_, T_, T_, T_, F_, F_, F_, F_, F_, F_] rfl rfl (any_of HT_.out (by kernel_rfl)) (fun _ _ _ h => h) (Or.inl ⟨by rfl, ?_⟩) ?_ ?_
   rotate_left
   ·intro w'
    go_simp
    with_reducible rfl
   rotate_left
   ·simp only [Act.put, la_, lz_, ls_, i64_w, i32_w]
    rfl
   refine pure_ (i := 7) (N := some 48) (v := ?_) (a' := ?_) #[T_, F_, T_, T_, T_, T_, T_, T_, F_, F_, F_, F_, F_] rfl rfl (any_of HT_.out (by kernel_rfl)) (fun _ _ _ h => h) (Or.inl ⟨by rfl, ?_⟩) ?_ ?_
   rotate_left
   ·intro w'
    go_simp
    with_reducible rfl
   rotate_left
   ·simp only [Act.put, la_, lz_, ls_, i64_w, i32_w]
    rfl
   refine pure_ (i := 8) (N := some 49) (v := ?_) (a' := ?_) #[T_, F_, T_, T_, T_, T_, T_, T_, T_, F_, F_, F_, F_] rfl rfl (any_of HT_.out (by kernel_rfl)) (fun _ _ _ h => h) (Or.inl ⟨by rfl, ?_⟩) ?_ ?_
   rotate_left
   ·intro w'
    go_simp
    with_reducible rfl
   rotate_left
   ·simp only [Act.put, la_, lz_, ls_, i64_w, i32_w]
    rfl
   refine pure_ (i := 9) (N := some 50) (v := ?_) (a' := ?_) #[T_, F_, T_, T_, T_, T_, T_, T_, T_, T_, F_, F_, F_] rfl rfl (any_of HT_.out (by kernel_rfl)) (fun _ _ _ h => h) (Or.inl ⟨by rfl, ?_⟩) ?_ ?_
   rotate_left
   ·intro w'
    go_simp
    with_reducible rfl
   rotate_left
   ·simp only [Act.put, la_, lz_, ls_, i64_w, i32_w]
    rfl
   refine take_ (i := 1) (N := some 42) (v := ?_) (a' := ?_) #[T_, T_, T_, T_, T_, T_, T_, T_, T_, T_, F_, F_, F_] rfl rfl (take_ofW HT_.out HW_.out (by kernel_rfl)) (fun _ _ _ h => h) (Or.inl ⟨by rfl, ?_⟩) hHeld ?_ ?_
   rotate_left
   ·rintro w' ⟨s0, s1, s2, s3, s4, s5, s6, s7, s8⟩
    go_simp
    with_reducible rfl
   rotate_left
   ·simp only [Act.put, la_, lz_, ls_, i64_w, i32_w]
    rfl
   refine one_ (i := 10) (N := some 51) #[T_, T_, T_, T_, T_, T_, T_, T_, T_, T_, T_, F_, F_] rfl rfl (one_of HT_.out (by kernel_rfl)) (by decide) (fun K hK => ?_)
   refine goes_ Try.func58 (by kernel_rfl) rfl #[.int .i64 a1, .agg #[.int .i64 a0_0, .int .i64 a0_1, .int .i64 a0_2, .int .i64 a0_3, .int .i64 a0_4, .int .i64 a0_5, .bool a0_6, .bool a0_7, .slice A0_8 l0_8.length c0_8], .agg #[.int .i64 a2, .int .i64 a3, .slice Ao56 y420.length co56]] (by rfl) rfl rfl (by (try simp only [lm_, lo_, ln_]); try rfl) ?_
   with_reducible refine (impl_noted.calls kj4 a1 a0_0 a0_1 a0_2 a0_3 a0_4 a0_5 a0_6 a0_7 _ _ l0_8 a2 a3 _ _ y420 t424 t425 t426 t427 t428 t429 t430 t431 t432 _ ?side1 ?side2 ?side3 ?side4 A51.out).mono ?_
   (case side1 => repeat (first | exact (Kd.C_below HR0_8.out HB.out) | (with_reducible refine Kd.C_alloc ?_ _) | (with_reducible refine Kd.C_drewN ?_ _) | (with_reducible refine Kd.C_drew ?_)))
   (case side2 => exact HC0_8.out)
   (case side3 => repeat (first | exact (by repeat (first | (with_reducible exact HR423.out) | (with_reducible refine Kd.C_alloc ?_ _) | (with_reducible refine Kd.C_drewN ?_ _) | (with_reducible refine Kd.C_drew ?_) | exact HR423.out)) | (with_reducible refine Kd.C_alloc ?_ _) | (with_reducible refine Kd.C_drewN ?_ _) | (with_reducible refine Kd.C_drew ?_)))
   (case side4 => exact HC423.out)
   rintro e w58 ⟨v433, rfl, ho0, hb⟩
   refine ⟨_, rfl, ?_⟩
   have n0_ := mk_ (Kd.R_elder' (Kd.ur_ HO419.out) (Kd.R_base ho0) hb)
   have n1_ := mk_ (Kd.R_lower (Kd.R_new' ho0 (Kd.R_lt (Kd.ur_ HO419.out))) (below_size (us_ HB.out)))
   have n2_ := mk_ (blk_below (u_ BK410.out) hb)
   have n3_ := mk_ (blk_below (u_ BK411.out) hb)
   have n4_ := mk_ (Kd.C_below (by repeat (first | (with_reducible exact HR423.out) | (with_reducible refine Kd.C_alloc ?_ _) | (with_reducible refine Kd.C_drewN ?_ _) | (with_reducible refine Kd.C_drew ?_) | exact HR423.out)) hb)
   have n5_ := mk_ (below_step (us_ HB.out) hb)
   clear HO419
   clear BK410
   clear BK411
   clear HR423
   clear HB
   have HO419 := n0_
   have HO434 := n1_
   have BK410 := n2_
   have BK411 := n3_
   have HR423 := n4_
   have HB := n5_
   clear n0_ n1_ n2_ n3_ n4_ n5_
   (try clear hb)
   (try clear hb2)
   (try clear hk)
   (try clear hi)
   (try clear ho0)
   obtain ⟨Ao67, co67, eo67⟩ := Kd.R_slice HO434.out
   (first | subst eo67 | (injection eo67 with f1_ f2_ f3_; have f4_ := f1_.symm; have f5_ := f3_.symm; clear f1_ f2_ f3_; subst f4_; subst f5_))
   refine hK.out _ _ ⟨(blk_cell BK410.out 0).trans rfl, (blk_cell BK410.out 1).trans rfl, (blk_cell BK410.out 2).trans rfl, (blk_cell BK410.out 3).trans rfl, (blk_cell BK410.out 4).trans rfl, (blk_cell BK410.out 5).trans rfl, (blk_cell BK410.out 6).trans rfl, (blk_cell BK410.out 7).trans rfl, (blk_cell BK410.out 8).trans rfl⟩ (fun hHeld => ?_)
   clear hK K
   refine norm_ (a' := ?_) ?_ ?_
   rotate_left
   ·show Act.put _ (some 51) _ = _
    simp only [Act.put, la_, lz_, ls_, i64_w, i32_w]
    rfl
   refine one_ (i := 11) (N := none) #[T_, T_, T_, T_, T_, T_, T_, T_, T_, T_, T_, T_, F_] rfl rfl (one_of HT_.out (by kernel_rfl)) (by decide) (fun K hK => ?_)
   have hs59 : w58.cell? ⟨gb411, 0, none⟩ = some (.int .i64 0) := (blk_cell BK411.out 0).trans rfl
   have hfs59 := blk_frozen BK411.out 0
   have hns59_0 := NB410_411.out
   have hms59_0 := NB411_410.out
   have hs60 : w58.cell? ⟨gb411, 1, none⟩ = some (.int .i64 0) := (blk_cell BK411.out 1).trans rfl
   have hfs60 := blk_frozen BK411.out 1
   have hns60_0 := NB410_411.out
   have hms60_0 := NB411_410.out
   have hs61 : w58.cell? ⟨gb411, 2, none⟩ = some (.int .i64 0) := (blk_cell BK411.out 2).trans rfl
   have hfs61 := blk_frozen BK411.out 2
   have hns61_0 := NB410_411.out
   have hms61_0 := NB411_410.out
   have hs62 : w58.cell? ⟨gb411, 3, none⟩ = some (.int .i64 0) := (blk_cell BK411.out 3).trans rfl
   have hfs62 := blk_frozen BK411.out 3
   have hns62_0 := NB410_411.out
   have hms62_0 := NB411_410.out
   have hs63 : w58.cell? ⟨gb411, 4, none⟩ = some (.int .i64 0) := (blk_cell BK411.out 4).trans rfl
   have hfs63 := blk_frozen BK411.out 4
   have hns63_0 := NB410_411.out
   have hms63_0 := NB411_410.out
   have hs64 : w58.cell? ⟨gb411, 5, none⟩ = some (.int .i64 0) := (blk_cell BK411.out 5).trans rfl
   have hfs64 := blk_frozen BK411.out 5
   have hns64_0 := NB410_411.out
   have hms64_0 := NB411_410.out
   have hs65 : w58.cell? ⟨gb411, 6, none⟩ = some (.bool false) := (blk_cell BK411.out 6).trans rfl
   have hfs65 := blk_frozen BK411.out 6
   have hns65_0 := NB410_411.out
   have hms65_0 := NB411_410.out
   have hs66 : w58.cell? ⟨gb411, 7, none⟩ = some (.bool false) := (blk_cell BK411.out 7).trans rfl
   have hfs66 := blk_frozen BK411.out 7
   have hns66_0 := NB410_411.out
   have hms66_0 := NB411_410.out
   have hs68 : w58.cell? ⟨gb411, 8, none⟩ = some (.slice none 0 0) := (blk_cell BK411.out 8).trans rfl
   have hfs68 := blk_frozen BK411.out 8
   have hns68_0 := NB410_411.out
   have hms68_0 := NB411_410.out
   refine skip_ (w1 := ?_) (by rfl) rfl ?_ ?_
   rotate_left
   ·go_simp
    rfl
   refine hK.out _ _ ⟨((cell_far (p := ⟨gb411, _, none⟩) NB410_411.out _).trans (((cell_far (p := ⟨gb411, _, none⟩) NB410_411.out _).trans (((cell_far (p := ⟨gb411, _, none⟩) NB410_411.out _).trans (((cell_far (p := ⟨gb411, _, none⟩) NB410_411.out _).trans (((cell_far (p := ⟨gb411, _, none⟩) NB410_411.out _).trans (((cell_far (p := ⟨gb411, _, none⟩) NB410_411.out _).trans (((cell_far (p := ⟨gb411, _, none⟩) NB410_411.out _).trans (((cell_far (p := ⟨gb411, _, none⟩) NB410_411.out _).trans (((cell_far (p := ⟨gb411, _, none⟩) NB410_411.out _).trans (hHeld.1)))))))))))))))))), ((cell_far (p := ⟨gb411, _, none⟩) NB410_411.out _).trans (((cell_far (p := ⟨gb411, _, none⟩) NB410_411.out _).trans (((cell_far (p := ⟨gb411, _, none⟩) NB410_411.out _).trans (((cell_far (p := ⟨gb411, _, none⟩) NB410_411.out _).trans (((cell_far (p := ⟨gb411, _, none⟩) NB410_411.out _).trans (((cell_far (p := ⟨gb411, _, none⟩) NB410_411.out _).trans (((cell_far (p := ⟨gb411, _, none⟩) NB410_411.out _).trans (((cell_far (p := ⟨gb411, _, none⟩) NB410_411.out _).trans (((cell_far (p := ⟨gb411, _, none⟩) NB410_411.out _).trans (hHeld.2.1)))))))))))))))))), ((cell_far (p := ⟨gb411, _, none⟩) NB410_411.out _).trans (((cell_far (p := ⟨gb411, _, none⟩) NB410_411.out _).trans (((cell_far (p := ⟨gb411, _, none⟩) NB410_411.out _).trans (((cell_far (p := ⟨gb411, _, none⟩) NB410_411.out _).trans (((cell_far (p := ⟨gb411, _, none⟩) NB410_411.out _).trans (((cell_far (p := ⟨gb411, _, none⟩) NB410_411.out _).trans (((cell_far (p := ⟨gb411, _, none⟩) NB410_411.out _).trans (((cell_far (p := ⟨gb411, _, none⟩) NB410_411.out _).trans (((cell_far (p := ⟨gb411, _, none⟩) NB410_411.out _).trans (hHeld.2.2.1)))))))))))))))))), ((cell_far (p := ⟨gb411, _, none⟩) NB410_411.out _).trans (((cell_far (p := ⟨gb411, _, none⟩) NB410_411.out _).trans (((cell_far (p := ⟨gb411, _, none⟩) NB410_411.out _).trans (((cell_far (p := ⟨gb411, _, none⟩) NB410_411.out _).trans (((cell_far (p := ⟨gb411, _, none⟩) NB410_411.out _).trans (((cell_far (p := ⟨gb411, _, none⟩) NB410_411.out _).trans (((cell_far (p := ⟨gb411, _, none⟩) NB410_411.out _).trans (((cell_far (p := ⟨gb411, _, none⟩) NB410_411.out _).trans (((cell_far (p := ⟨gb411, _, none⟩) NB410_411.out _).trans (hHeld.2.2.2.1)))))))))))))))))), ((cell_far (p := ⟨gb411, _, none⟩) NB410_411.out _).trans (((cell_far (p := ⟨gb411, _, none⟩) NB410_411.out _).trans (((cell_far (p := ⟨gb411, _, none⟩) NB410_411.out _).trans (((cell_far (p := ⟨gb411, _, none⟩) NB410_411.out _).trans (((cell_far (p := ⟨gb411, _, none⟩) NB410_411.out _).trans (((cell_far (p := ⟨gb411, _, none⟩) NB410_411.out _).trans (((cell_far (p := ⟨gb411, _, none⟩) NB410_411.out _).trans (((cell_far (p := ⟨gb411, _, none⟩) NB410_411.out _).trans (((cell_far (p := ⟨gb411, _, none⟩) NB410_411.out _).trans (hHeld.2.2.2.2.1)))))))))))))))))), ((cell_far (p := ⟨gb411, _, none⟩) NB410_411.out _).trans (((cell_far (p := ⟨gb411, _, none⟩) NB410_411.out _).trans (((cell_far (p := ⟨gb411, _, none⟩) NB410_411.out _).trans (((cell_far (p := ⟨gb411, _, none⟩) NB410_411.out _).trans (((cell_far (p := ⟨gb411, _, none⟩) NB410_411.out _).trans (((cell_far (p := ⟨gb411, _, none⟩) NB410_411.out _).trans (((cell_far (p := ⟨gb411, _, none⟩) NB410_411.out _).trans (((cell_far (p := ⟨gb411, _, none⟩) NB410_411.out _).trans (((cell_far (p := ⟨gb411, _, none⟩) NB410_411.out _).trans (hHeld.2.2.2.2.2.1)))))))))))))))))), ((cell_far (p := ⟨gb411, _, none⟩) NB410_411.out _).trans (((cell_far (p := ⟨gb411, _, none⟩) NB410_411.out _).trans (((cell_far (p := ⟨gb411, _, none⟩) NB410_411.out _).trans (((cell_far (p := ⟨gb411, _, none⟩) NB410_411.out _).trans (((cell_far (p := ⟨gb411, _, none⟩) NB410_411.out _).trans (((cell_far (p := ⟨gb411, _, none⟩) NB410_411.out _).trans (((cell_far (p := ⟨gb411, _, none⟩) NB410_411.out _).trans (((cell_far (p := ⟨gb411, _, none⟩) NB410_411.out _).trans (((cell_far (p := ⟨gb411, _, none⟩) NB410_411.out _).trans (hHeld.2.2.2.2.2.2.1)))))))))))))))))), ((cell_far (p := ⟨gb411, _, none⟩) NB410_411.out _).trans (((cell_far (p := ⟨gb411, _, none⟩) NB410_411.out _).trans (((cell_far (p := ⟨gb411, _, none⟩) NB410_411.out _).trans (((cell_far (p := ⟨gb411, _, none⟩) NB410_411.out _).trans (((cell_far (p := ⟨gb411, _, none⟩) NB410_411.out _).trans (((cell_far (p := ⟨gb411, _, none⟩) NB410_411.out _).trans (((cell_far (p := ⟨gb411, _, none⟩) NB410_411.out _).trans (((cell_far (p := ⟨gb411, _, none⟩) NB410_411.out _).trans (((cell_far (p := ⟨gb411, _, none⟩) NB410_411.out _).trans (hHeld.2.2.2.2.2.2.2.1)))))))))))))))))), ((cell_far (p := ⟨gb411, _, none⟩) NB410_411.out _).trans (((cell_far (p := ⟨gb411, _, none⟩) NB410_411.out _).trans (((cell_far (p := ⟨gb411, _, none⟩) NB410_411.out _).trans (((cell_far (p := ⟨gb411, _, none⟩) NB410_411.out _).trans (((cell_far (p := ⟨gb411, _, none⟩) NB410_411.out _).trans (((cell_far (p := ⟨gb411, _, none⟩) NB410_411.out _).trans (((cell_far (p := ⟨gb411, _, none⟩) NB410_411.out _).trans (((cell_far (p := ⟨gb411, _, none⟩) NB410_411.out _).trans (((cell_far (p := ⟨gb411, _, none⟩) NB410_411.out _).trans (hHeld.2.2.2.2.2.2.2.2))))))))))))))))))⟩ (fun hHeld => ?_)
   clear hK K
   refine pure_ (i := 12) (N := some 9) (v := ?_) (a' := ?_) #[T_, T_, T_, T_, T_, T_, T_, T_, T_, T_, T_, T_, T_] rfl rfl (any_of HT_.out (by kernel_rfl)) (fun _ _ _ h => h) (Or.inl ⟨by rfl, ?_⟩) ?_ ?_
   rotate_left
   ·intro w'
    go_simp
    with_reducible rfl
   rotate_left
   ·simp only [Act.put, la_, lz_, ls_, i64_w, i32_w]
    rfl
   refine done_ (done_of HT_.out (by kernel_rfl)) ?_
   try go_wp2
   refine bodyPost_ret (results_ct rfl _ _ gb411 37 #[.int .i64 t424, .int .i64 t425, .int .i64 t426, .int .i64 t427, .int .i64 t428, .int .i64 t429, .bool t430, .bool t431, .slice Ao67 t432.length co67] (0, 0) _ rfl (by (with_reducible repeat (first | refine bn_ ?_ _ | refine bw_ ?_ | refine ba_ ?_ _)); with_reducible apply blk_put9; (with_reducible repeat (first | refine bn_ ?_ _ | refine bw_ ?_ | refine ba_ ?_ _)); exact BK411.out) Try.underlying37 rfl (by kernel_rfl)) rfl ?_
   exact ⟨_, by first | rfl | (simp [errW_none, errW_some] <;> rfl) | (simp only [← hji48]; first | rfl | (simp [errW_none, errW_some] <;> rfl)) | (simp [*, errW_none, errW_some] <;> rfl), by (with_reducible repeat (first | apply Kd.R_alloc | apply Kd.R_drewN | apply Kd.R_drew)); exact Kd.R_mono (Kd.R_far9 (g := gb411) (Kd.R_types HO434.out BK411.out (by decide)) (fun _ hk => hk.2) _ _ _ _ _ _ _ _ _) (fun _ hk => trivial), us_ HB.out⟩

end Go.Proofs.Ytkkibccnpkbbjab.MFnNoteAbout
